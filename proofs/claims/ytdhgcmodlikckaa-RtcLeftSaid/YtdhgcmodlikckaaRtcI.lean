/- A call of a clock, and of the document's. -/
import Derived.Test.YtdhgcmodlikckaaRtcG
import Derived.RegionTactic
import Derived.Deep.Cut
import Derived.Deep.RegionWith
namespace Go.Proofs.Ytdhgcmodlikckaa
open Go.RowKit
set_option linter.unusedVariables false
set_option linter.unusedSimpArgs false

theorem rowAll {W : World} {b : Nat} {cs : Array Value} {t : TypeId} (h : RowAt W b cs t) : ∀ i, W.cell? ⟨b, i, none⟩ = cs[i]? := fun i => cell_of_row W b i cs t (0, 0) h
theorem rowFz {W : World} {b : Nat} {cs : Array Value} {t : TypeId} (h : RowAt W b cs t) : ∀ i, W.frozen? ⟨b, i, none⟩ = false := fun i => h.frozen i
def doneS (b : Nat) (s : St) (e : Ending) (w' : World) (w : World) : Prop :=
  ∃ b' s', e = .returned (.tuple #[.pointer (some ⟨b', 0, none⟩), .agg #[.int .u32 s'.div, .int .u32 s'.rest, .int .u32 s'.set, .int .u64 s'.sec, .int .u32 (s'.alarm % 4294967296), .int .u32 (s'.alarm / 4294967296), .bool s'.en, .bool s'.ra], .bool true]) ∧ s'.ok ∧ RtcAt w' b' s' ∧ (b' = b ∨ w.heap.size ≤ b') ∧ But b w w'
theorem but_set {b : Nat} {w W : World} (h : But b w W) {p : Addr} (hp : w.heap.size ≤ p.block) (v : Value) : But b w (W.setCell p v) :=
  ⟨h.os, h.tape, h.output, Nat.le_trans h.size (by simp [World.setCell]), fun k hk hb => (Below.heap_setCell _ _ _ _ (by omega)).trans (h.block k hk hb)⟩
theorem RowAt.set8 {W : World} {b : Nat} {t : TypeId} {x0 x1 x2 x3 x4 x5 x6 x7 : Value} (h : RowAt W b #[x0, x1, x2, x3, x4, x5, x6, x7] t) (v0 v1 v2 v3 v4 v5 v6 v7 : Value) :
    RowAt ((((((((W.setCell ⟨b, 0, none⟩ v0).setCell ⟨b, 1, none⟩ v1).setCell ⟨b, 2, none⟩ v2).setCell ⟨b, 3, none⟩ v3).setCell ⟨b, 4, none⟩ v4).setCell ⟨b, 5, none⟩ v5).setCell ⟨b, 6, none⟩ v6).setCell ⟨b, 7, none⟩ v7) b #[v0, v1, v2, v3, v4, v5, v6, v7] t := by
  have h0 : RowAt (W.setCell ⟨b, 0, none⟩ v0) b #[v0, x1, x2, x3, x4, x5, x6, x7] t := by
    have q := h.set 0 v0
    simpa only [List.setIfInBounds_toArray, List.set_cons_zero, List.set_cons_succ] using q
  have h1 : RowAt ((W.setCell ⟨b, 0, none⟩ v0).setCell ⟨b, 1, none⟩ v1) b #[v0, v1, x2, x3, x4, x5, x6, x7] t := by
    have q := h0.set 1 v1
    simpa only [List.setIfInBounds_toArray, List.set_cons_zero, List.set_cons_succ] using q
  have h2 : RowAt (((W.setCell ⟨b, 0, none⟩ v0).setCell ⟨b, 1, none⟩ v1).setCell ⟨b, 2, none⟩ v2) b #[v0, v1, v2, x3, x4, x5, x6, x7] t := by
    have q := h1.set 2 v2
    simpa only [List.setIfInBounds_toArray, List.set_cons_zero, List.set_cons_succ] using q
  have h3 : RowAt ((((W.setCell ⟨b, 0, none⟩ v0).setCell ⟨b, 1, none⟩ v1).setCell ⟨b, 2, none⟩ v2).setCell ⟨b, 3, none⟩ v3) b #[v0, v1, v2, v3, x4, x5, x6, x7] t := by
    have q := h2.set 3 v3
    simpa only [List.setIfInBounds_toArray, List.set_cons_zero, List.set_cons_succ] using q
  have h4 : RowAt (((((W.setCell ⟨b, 0, none⟩ v0).setCell ⟨b, 1, none⟩ v1).setCell ⟨b, 2, none⟩ v2).setCell ⟨b, 3, none⟩ v3).setCell ⟨b, 4, none⟩ v4) b #[v0, v1, v2, v3, v4, x5, x6, x7] t := by
    have q := h3.set 4 v4
    simpa only [List.setIfInBounds_toArray, List.set_cons_zero, List.set_cons_succ] using q
  have h5 : RowAt ((((((W.setCell ⟨b, 0, none⟩ v0).setCell ⟨b, 1, none⟩ v1).setCell ⟨b, 2, none⟩ v2).setCell ⟨b, 3, none⟩ v3).setCell ⟨b, 4, none⟩ v4).setCell ⟨b, 5, none⟩ v5) b #[v0, v1, v2, v3, v4, v5, x6, x7] t := by
    have q := h4.set 5 v5
    simpa only [List.setIfInBounds_toArray, List.set_cons_zero, List.set_cons_succ] using q
  have h6 : RowAt (((((((W.setCell ⟨b, 0, none⟩ v0).setCell ⟨b, 1, none⟩ v1).setCell ⟨b, 2, none⟩ v2).setCell ⟨b, 3, none⟩ v3).setCell ⟨b, 4, none⟩ v4).setCell ⟨b, 5, none⟩ v5).setCell ⟨b, 6, none⟩ v6) b #[v0, v1, v2, v3, v4, v5, v6, x7] t := by
    have q := h5.set 6 v6
    simpa only [List.setIfInBounds_toArray, List.set_cons_zero, List.set_cons_succ] using q
  have h7 : RowAt ((((((((W.setCell ⟨b, 0, none⟩ v0).setCell ⟨b, 1, none⟩ v1).setCell ⟨b, 2, none⟩ v2).setCell ⟨b, 3, none⟩ v3).setCell ⟨b, 4, none⟩ v4).setCell ⟨b, 5, none⟩ v5).setCell ⟨b, 6, none⟩ v6).setCell ⟨b, 7, none⟩ v7) b #[v0, v1, v2, v3, v4, v5, v6, v7] t := by
    have q := h6.set 7 v7
    simpa only [List.setIfInBounds_toArray, List.set_cons_zero, List.set_cons_succ] using q
  exact h7
theorem infoR : (Try.prog.info? 36).map (·.size) = some 8 := by kernel_rfl
theorem k_name {K : Act → World → Prop} {a : Act} {W : World} {Pr : World → Prop} (h : Pr W) (k : ∀ W', Pr W' → K a W') : K a W := k W h
theorem rv_one (s : St) : (#[.int .u32 s.div, .int .u32 s.rest, .int .u32 s.set, .int .u64 s.sec, .int .u32 (s.alarm % 4294967296), .int .u32 (s.alarm / 4294967296), .bool s.en, .bool s.ra] : Array Value).all (·.oneCell') = true := by simp [Value.oneCell']
theorem but_setRow {b : Nat} {w W : World} (h : But b w W) {g : Nat} (hg : w.heap.size ≤ g) (cs : Array Value) : But b w (W.setRow g cs) :=
  ⟨h.os, h.tape, h.output, Nat.le_trans h.size (by simp), fun k hk hb => by
    simp only [World.setRow, Array.getElem?_modify]
    rw [if_neg (by omega)]
    exact h.block k hk hb⟩
set_option maxHeartbeats 4000000 in
set_option maxRecDepth 100000 in
theorem do_0 (b : Nat) (s : St) (ok : s.ok) (n off v : Int) (w : World) (n0 : 0 ≤ n) (n1 : n ≤ 18446744073709551615) (o0 : 0 ≤ off) (o1 : off ≤ 4294967295) (v0 : 0 ≤ v) (v1 : v ≤ 4294967295) (hR : RtcAt w b s) :
    Calls Try.prog 19 #[.pointer (some ⟨b, 0, none⟩), .agg #[.int .u32 s.div, .int .u32 s.rest, .int .u32 s.set, .int .u64 s.sec, .int .u32 (s.alarm % 4294967296), .int .u32 (s.alarm / 4294967296), .bool s.en, .bool s.ra], .agg #[.int .i64 0, .int .u64 n, .int .u32 off, .int .u32 v]] w fun e w' => doneS b s e w' w := by
  go_enter Try.func19, Try.ntmps19
  go_wp2_with fail
  refine calls_box3 ?_
  intro W hB b0 b1 b2 hW
  have hlt : b < w.heap.size := RowAt.lt hR
  have R0 : RowAt W w.heap.size #[.int .u32 s.div, .int .u32 s.rest, .int .u32 s.set, .int .u64 s.sec, .int .u32 (s.alarm % 4294967296), .int .u32 (s.alarm / 4294967296), .bool s.en, .bool s.ra] 36 := b0
  have R1 : RowAt W (w.heap.size + 1) #[.int .i64 0, .int .u64 n, .int .u32 off, .int .u32 v] 40 := b1
  have R2 : RowAt W (w.heap.size + 1 + 1) #[.int .u32 0, .int .u32 0, .int .u32 0, .int .u64 0, .int .u32 0, .int .u32 0, .bool false, .bool false] 36 := b2
  have hR1 := RtcAt.ext hR hB
  have hF := but_of hB b
  clear b0 b1 b2 hR hB
  refine (tick_any b s ok n W n0 n1 hR1).mono ?_
  rintro e w1 ⟨rfl, hR2, hF1⟩
  replace R0 := R0.but hF1 (by omega)
  replace R1 := R1.but hF1 (by omega)
  replace R2 := R2.but hF1 (by omega)
  replace hF := hF.trans hF1
  clear hF1 hR1
  have qR0 := rowAll R0
  have zR0 := rowFz R0
  have qR1 := rowAll R1
  have zR1 := rowFz R1
  go_wp2_with fail
  refine (rtick_any s ok n _ n0 n1).mono ?_
  rintro e w2 ⟨rfl, hb2⟩
  clear qR0 zR0 qR1 zR1
  replace R2 := R2.ext hb2
  replace hR2 := RtcAt.ext hR2 hb2
  replace hF := hF.trans (but_of hb2 b)
  clear hb2 R0 R1
  have ok1 := St.raise_ok s _ (St.tick_ok s ok n n0 n1)
  obtain ⟨s1, hs1⟩ : ∃ s1, s.raise (s.tick n) = s1 := ⟨_, rfl⟩
  rw [hs1] at ok1 hR2 ⊢
  clear hs1 ok
  unfold St.rv
  have hF' := Lib.hid hF
  have hRR := Lib.hid hR2
  clear hF hR2
  dsimp only
  go_at_K
  go_wp2_with (refine wpList_store_row rfl 36 (.tmp 7) (.tmp 28) rfl (w.heap.size + 1 + 1) #[.int .u32 s1.div, .int .u32 s1.rest, .int .u32 s1.set, .int .u64 s1.sec, .int .u32 (s1.alarm % 4294967296), .int .u32 (s1.alarm / 4294967296), .bool s1.en, .bool s1.ra] rfl rfl 36 _ R2 infoR rfl (rv_one s1) ?_)
  have Q2 := R2.setRow #[.int .u32 s1.div, .int .u32 s1.rest, .int .u32 s1.set, .int .u64 s1.sec, .int .u32 (s1.alarm % 4294967296), .int .u32 (s1.alarm / 4294967296), .bool s1.en, .bool s1.ra]
  have c0 := Q2.cell (i := 0) rfl
  have c1 := Q2.cell (i := 1) rfl
  have c2 := Q2.cell (i := 2) rfl
  have c3 := Q2.cell (i := 3) rfl
  have c4 := Q2.cell (i := 4) rfl
  have c5 := Q2.cell (i := 5) rfl
  have c6 := Q2.cell (i := 6) rfl
  have c7 := Q2.cell (i := 7) rfl
  have fz := rowFz Q2
  refine bodyPost_ret (v := .tuple #[.pointer (some ⟨b, 0, none⟩), .agg #[.int .u32 s1.div, .int .u32 s1.rest, .int .u32 s1.set, .int .u64 s1.sec, .int .u32 (s1.alarm % 4294967296), .int .u32 (s1.alarm / 4294967296), .bool s1.en, .bool s1.ra], .bool true]) (by simp [results, Try.results19, go_sem, c0, c1, c2, c3, c4, c5, c6, c7]) rfl ?_
  exact ⟨b, s1, rfl, ok1, RowAt.setRow_other hRR.out (by omega) _, .inl rfl, but_setRow hF'.out (by omega) _⟩
set_option maxHeartbeats 4000000 in
set_option maxRecDepth 100000 in
theorem do_3 (b : Nat) (s : St) (ok : s.ok) (n off v : Int) (w : World) (n0 : 0 ≤ n) (n1 : n ≤ 18446744073709551615) (o0 : 0 ≤ off) (o1 : off ≤ 4294967295) (v0 : 0 ≤ v) (v1 : v ≤ 4294967295) (hR : RtcAt w b s) :
    Calls Try.prog 19 #[.pointer (some ⟨b, 0, none⟩), .agg #[.int .u32 s.div, .int .u32 s.rest, .int .u32 s.set, .int .u64 s.sec, .int .u32 (s.alarm % 4294967296), .int .u32 (s.alarm / 4294967296), .bool s.en, .bool s.ra], .agg #[.int .i64 3, .int .u64 n, .int .u32 off, .int .u32 v]] w fun e w' => doneS b s e w' w := by
  go_enter Try.func19, Try.ntmps19
  go_wp2_with fail
  refine calls_box3 ?_
  intro W hB b0 b1 b2 hW
  have hlt : b < w.heap.size := RowAt.lt hR
  have R0 : RowAt W w.heap.size #[.int .u32 s.div, .int .u32 s.rest, .int .u32 s.set, .int .u64 s.sec, .int .u32 (s.alarm % 4294967296), .int .u32 (s.alarm / 4294967296), .bool s.en, .bool s.ra] 36 := b0
  have R1 : RowAt W (w.heap.size + 1) #[.int .i64 3, .int .u64 n, .int .u32 off, .int .u32 v] 40 := b1
  have R2 : RowAt W (w.heap.size + 1 + 1) #[.int .u32 0, .int .u32 0, .int .u32 0, .int .u64 0, .int .u32 0, .int .u32 0, .bool false, .bool false] 36 := b2
  have hR1 := RtcAt.ext hR hB
  have hF := but_of hB b
  clear b0 b1 b2 hR hB
  refine (reset_any b s W hR1).mono ?_
  rintro e w1 ⟨rfl, hR2, hF1⟩
  replace R0 := R0.but hF1 (by omega)
  replace R1 := R1.but hF1 (by omega)
  replace R2 := R2.but hF1 (by omega)
  replace hF := hF.trans hF1
  clear hF1 hR1
  have qR0 := rowAll R0
  have zR0 := rowFz R0
  have qR1 := rowAll R1
  have zR1 := rowFz R1
  go_wp2_with fail
  refine (rreset_any s _).mono ?_
  rintro e w2 ⟨rfl, hb2⟩
  clear qR0 zR0 qR1 zR1
  replace R2 := R2.ext hb2
  replace hR2 := RtcAt.ext hR2 hb2
  replace hF := hF.trans (but_of hb2 b)
  clear hb2 R0 R1
  have ok1 := St.reset_ok s ok
  obtain ⟨s1, hs1⟩ : ∃ s1, s.reset = s1 := ⟨_, rfl⟩
  rw [hs1] at ok1 hR2 ⊢
  clear hs1 ok
  unfold St.rv
  have hF' := Lib.hid hF
  have hRR := Lib.hid hR2
  clear hF hR2
  dsimp only
  go_at_K
  go_wp2_with (refine wpList_store_row rfl 36 (.tmp 7) (.tmp 82) rfl (w.heap.size + 1 + 1) #[.int .u32 s1.div, .int .u32 s1.rest, .int .u32 s1.set, .int .u64 s1.sec, .int .u32 (s1.alarm % 4294967296), .int .u32 (s1.alarm / 4294967296), .bool s1.en, .bool s1.ra] rfl rfl 36 _ R2 infoR rfl (rv_one s1) ?_)
  have Q2 := R2.setRow #[.int .u32 s1.div, .int .u32 s1.rest, .int .u32 s1.set, .int .u64 s1.sec, .int .u32 (s1.alarm % 4294967296), .int .u32 (s1.alarm / 4294967296), .bool s1.en, .bool s1.ra]
  have c0 := Q2.cell (i := 0) rfl
  have c1 := Q2.cell (i := 1) rfl
  have c2 := Q2.cell (i := 2) rfl
  have c3 := Q2.cell (i := 3) rfl
  have c4 := Q2.cell (i := 4) rfl
  have c5 := Q2.cell (i := 5) rfl
  have c6 := Q2.cell (i := 6) rfl
  have c7 := Q2.cell (i := 7) rfl
  have fz := rowFz Q2
  refine bodyPost_ret (v := .tuple #[.pointer (some ⟨b, 0, none⟩), .agg #[.int .u32 s1.div, .int .u32 s1.rest, .int .u32 s1.set, .int .u64 s1.sec, .int .u32 (s1.alarm % 4294967296), .int .u32 (s1.alarm / 4294967296), .bool s1.en, .bool s1.ra], .bool true]) (by simp [results, Try.results19, go_sem, c0, c1, c2, c3, c4, c5, c6, c7]) rfl ?_
  exact ⟨b, s1, rfl, ok1, RowAt.setRow_other hRR.out (by omega) _, .inl rfl, but_setRow hF'.out (by omega) _⟩
set_option maxHeartbeats 4000000 in
set_option maxRecDepth 100000 in
theorem do_else (b : Nat) (s : St) (ok : s.ok) (k n off v : Int) (w : World) (n0 : 0 ≤ n) (n1 : n ≤ 18446744073709551615) (o0 : 0 ≤ off) (o1 : off ≤ 4294967295) (v0 : 0 ≤ v) (v1 : v ≤ 4294967295) (hR : RtcAt w b s) (h0 : k ≠ 0) (h1 : k ≠ 1) (h2 : k ≠ 2) (h3 : k ≠ 3) (h4 : k ≠ 4):
    Calls Try.prog 19 #[.pointer (some ⟨b, 0, none⟩), .agg #[.int .u32 s.div, .int .u32 s.rest, .int .u32 s.set, .int .u64 s.sec, .int .u32 (s.alarm % 4294967296), .int .u32 (s.alarm / 4294967296), .bool s.en, .bool s.ra], .agg #[.int .i64 k, .int .u64 n, .int .u32 off, .int .u32 v]] w fun e w' => doneS b s e w' w := by
  have g0 : (k == 0) = false := by simpa using h0
  have g1 : (k == 1) = false := by simpa using h1
  have g2 : (k == 2) = false := by simpa using h2
  have g3 : (k == 3) = false := by simpa using h3
  have g4 : (k == 4) = false := by simpa using h4
  clear h0 h1 h2 h3 h4
  go_enter Try.func19, Try.ntmps19
  go_wp2_with fail
  refine wp_box3 ?_
  intro W hB b0 b1 b2 hW
  have hlt : b < w.heap.size := RowAt.lt hR
  have R0 : RowAt W w.heap.size #[.int .u32 s.div, .int .u32 s.rest, .int .u32 s.set, .int .u64 s.sec, .int .u32 (s.alarm % 4294967296), .int .u32 (s.alarm / 4294967296), .bool s.en, .bool s.ra] 36 := b0
  have R1 : RowAt W (w.heap.size + 1) #[.int .i64 k, .int .u64 n, .int .u32 off, .int .u32 v] 40 := b1
  have R2 : RowAt W (w.heap.size + 1 + 1) #[.int .u32 0, .int .u32 0, .int .u32 0, .int .u64 0, .int .u32 0, .int .u32 0, .bool false, .bool false] 36 := b2
  have hR1 := RtcAt.ext hR hB
  have hF := but_of hB b
  clear b0 b1 b2 hR hB
  have hF' := Lib.hid hF
  have hRR := Lib.hid hR1
  clear hF hR1
  obtain ⟨hk0, hf0⟩ := Ext.cells R0
  obtain ⟨hk1, hf1⟩ := Ext.cells R1
  refine wp_start (w := W) ?_
  intro x
  go_wp2_with fail
  refine wp_region_ext_tail _ 3 (by kernel_rfl) (by kernel_rfl) (by kernel_rfl) ?_
  simp only [List.take_succ_cons, List.take_zero, List.drop_succ_cons, List.drop_zero]
  repeat (go_big_quiet_step (fail))
  refine wpQuiet_nil ?_
  rintro _ ⟨y, rfl⟩
  have R3 := RowAt.ext R2 y.ok
  go_wp2_with (refine wpList_store_row rfl 36 (.tmp 7) (.tmp 104) rfl (w.heap.size + 1 + 1) #[.int .u32 s.div, .int .u32 s.rest, .int .u32 s.set, .int .u64 s.sec, .int .u32 (s.alarm % 4294967296), .int .u32 (s.alarm / 4294967296), .bool s.en, .bool s.ra] rfl rfl 36 _ R3 infoR rfl (rv_one s) ?_)
  have Q2 := R3.setRow #[.int .u32 s.div, .int .u32 s.rest, .int .u32 s.set, .int .u64 s.sec, .int .u32 (s.alarm % 4294967296), .int .u32 (s.alarm / 4294967296), .bool s.en, .bool s.ra]
  have c0 := Q2.cell (i := 0) rfl
  have c1 := Q2.cell (i := 1) rfl
  have c2 := Q2.cell (i := 2) rfl
  have c3 := Q2.cell (i := 3) rfl
  have c4 := Q2.cell (i := 4) rfl
  have c5 := Q2.cell (i := 5) rfl
  have c6 := Q2.cell (i := 6) rfl
  have c7 := Q2.cell (i := 7) rfl
  have fz := rowFz Q2
  refine bodyPost_ret (v := .tuple #[.pointer (some ⟨b, 0, none⟩), .agg #[.int .u32 s.div, .int .u32 s.rest, .int .u32 s.set, .int .u64 s.sec, .int .u32 (s.alarm % 4294967296), .int .u32 (s.alarm / 4294967296), .bool s.en, .bool s.ra], .bool true]) (by simp [results, Try.results19, go_sem, c0, c1, c2, c3, c4, c5, c6, c7]) rfl ?_
  exact ⟨b, s, rfl, ok, RowAt.setRow_other (RtcAt.ext hRR.out y.ok) (by omega) _, .inl rfl, but_setRow (hF'.out.trans (but_of y.ok b)) (by omega) _⟩
set_option maxHeartbeats 4000000 in
set_option maxRecDepth 100000 in
theorem do_4 (b : Nat) (s : St) (ok : s.ok) (n off v : Int) (w : World) (n0 : 0 ≤ n) (n1 : n ≤ 18446744073709551615) (o0 : 0 ≤ off) (o1 : off ≤ 4294967295) (v0 : 0 ≤ v) (v1 : v ≤ 4294967295) (hR : RtcAt w b s) :
    Calls Try.prog 19 #[.pointer (some ⟨b, 0, none⟩), .agg #[.int .u32 s.div, .int .u32 s.rest, .int .u32 s.set, .int .u64 s.sec, .int .u32 (s.alarm % 4294967296), .int .u32 (s.alarm / 4294967296), .bool s.en, .bool s.ra], .agg #[.int .i64 4, .int .u64 n, .int .u32 off, .int .u32 v]] w fun e w' => doneS b s e w' w := by
  go_enter Try.func19, Try.ntmps19
  go_wp2_with fail
  refine calls_box3 ?_
  intro W hB b0 b1 b2 hW
  have hlt : b < w.heap.size := RowAt.lt hR
  have R0 : RowAt W w.heap.size #[.int .u32 s.div, .int .u32 s.rest, .int .u32 s.set, .int .u64 s.sec, .int .u32 (s.alarm % 4294967296), .int .u32 (s.alarm / 4294967296), .bool s.en, .bool s.ra] 36 := b0
  have R1 : RowAt W (w.heap.size + 1) #[.int .i64 4, .int .u64 n, .int .u32 off, .int .u32 v] 40 := b1
  have R2 : RowAt W (w.heap.size + 1 + 1) #[.int .u32 0, .int .u32 0, .int .u32 0, .int .u64 0, .int .u32 0, .int .u32 0, .bool false, .bool false] 36 := b2
  have hR1 := RtcAt.ext hR hB
  have hF := but_of hB b
  clear b0 b1 b2 hR hB
  have hlW := Nat.lt_of_lt_of_le hlt (Nat.le_trans (Nat.le_add_right _ 2) (Nat.le_of_lt hW))
  refine (copy_any b s W hR1).mono ?_
  rintro e w1 ⟨b', rfl, hb', hRc, hB1⟩
  replace R0 := R0.ext hB1
  replace R1 := R1.ext hB1
  replace R2 := R2.ext hB1
  replace hR1 := RtcAt.ext hR1 hB1
  replace hF := hF.trans (but_of hB1 b)
  clear hB1
  have qR0 := rowAll R0
  have zR0 := rowFz R0
  have qR1 := rowAll R1
  have zR1 := rowFz R1
  go_wp2_with fail
  refine (alike_any b' s ok _ hRc).mono ?_
  rintro e w2 ⟨rfl, hB2⟩
  clear qR0 zR0 qR1 zR1
  replace R0 := R0.ext hB2
  replace R1 := R1.ext hB2
  replace R2 := R2.ext hB2
  replace hR1 := RtcAt.ext hR1 hB2
  replace hRc := RtcAt.ext hRc hB2
  replace hF := hF.trans (but_of hB2 b)
  clear hB2
  have qR0 := rowAll R0
  have zR0 := rowFz R0
  have qR1 := rowAll R1
  have zR1 := rowFz R1
  go_wp2_with fail
  refine (tick_any b s ok 77 _ (by omega) (by omega) hR1).mono ?_
  rintro e w3 ⟨rfl, hR2, hF3⟩
  clear qR0 zR0 qR1 zR1
  replace R0 := R0.but hF3 (by omega)
  replace R1 := R1.but hF3 (by omega)
  replace R2 := R2.but hF3 (by omega)
  replace hRc : RtcAt w3 b' s := RowAt.but hRc hF3 (by omega)
  replace hF := hF.trans hF3
  clear hF3 hR1
  go_wp2_with fail
  refine (reset_any b _ _ hR2).mono ?_
  rintro e w4 ⟨rfl, hR3, hF4⟩
  replace R0 := R0.but hF4 (by omega)
  replace R1 := R1.but hF4 (by omega)
  replace R2 := R2.but hF4 (by omega)
  replace hRc : RtcAt w4 b' s := RowAt.but hRc hF4 (by omega)
  replace hF := hF.trans hF4
  clear hF4 hR2 hR3
  have hbw : w.heap.size ≤ b' := by omega
  have hbne : b' ≠ w.heap.size + 1 + 1 := by omega
  have hF' := Lib.hid hF
  have hRR := Lib.hid hRc
  clear hF hRc hb' hlW
  obtain ⟨hk0, hf0⟩ := Ext.cells R0
  obtain ⟨hk1, hf1⟩ := Ext.cells R1
  dsimp only
  go_at_K
  go_upto_region 21 with (fail)
  refine wp_start (w := w4) ?_
  intro x
  refine wp_region_ext_tail _ 3 (by kernel_rfl) (by kernel_rfl) (by kernel_rfl) ?_
  simp only [List.take_succ_cons, List.take_zero, List.drop_succ_cons, List.drop_zero]
  repeat (go_big_quiet_step (fail))
  refine wpQuiet_nil ?_
  rintro _ ⟨y, rfl⟩
  have R3 := RowAt.ext R2 y.ok
  go_wp2_with (refine wpList_store_row rfl 36 (.tmp 7) (.tmp 102) rfl (w.heap.size + 1 + 1) #[.int .u32 s.div, .int .u32 s.rest, .int .u32 s.set, .int .u64 s.sec, .int .u32 (s.alarm % 4294967296), .int .u32 (s.alarm / 4294967296), .bool s.en, .bool s.ra] rfl rfl 36 _ R3 infoR rfl (rv_one s) ?_)
  have Q2 := R3.setRow #[.int .u32 s.div, .int .u32 s.rest, .int .u32 s.set, .int .u64 s.sec, .int .u32 (s.alarm % 4294967296), .int .u32 (s.alarm / 4294967296), .bool s.en, .bool s.ra]
  have c0 := Q2.cell (i := 0) rfl
  have c1 := Q2.cell (i := 1) rfl
  have c2 := Q2.cell (i := 2) rfl
  have c3 := Q2.cell (i := 3) rfl
  have c4 := Q2.cell (i := 4) rfl
  have c5 := Q2.cell (i := 5) rfl
  have c6 := Q2.cell (i := 6) rfl
  have c7 := Q2.cell (i := 7) rfl
  have fz := rowFz Q2
  refine bodyPost_ret (v := .tuple #[.pointer (some ⟨b', 0, none⟩), .agg #[.int .u32 s.div, .int .u32 s.rest, .int .u32 s.set, .int .u64 s.sec, .int .u32 (s.alarm % 4294967296), .int .u32 (s.alarm / 4294967296), .bool s.en, .bool s.ra], .bool true]) (by simp [results, Try.results19, go_sem, c0, c1, c2, c3, c4, c5, c6, c7]) rfl ?_
  exact ⟨b', s, rfl, ok, RowAt.setRow_other (RtcAt.ext hRR.out y.ok) (by omega) _, .inr hbw, but_setRow (hF'.out.trans (but_of y.ok b)) (by omega) _⟩
set_option maxHeartbeats 4000000 in
set_option maxRecDepth 100000 in
theorem do_1 (b : Nat) (s : St) (ok : s.ok) (n off v : Int) (w : World) (n0 : 0 ≤ n) (n1 : n ≤ 18446744073709551615) (o0 : 0 ≤ off) (o1 : off ≤ 4294967295) (v0 : 0 ≤ v) (v1 : v ≤ 4294967295) (hR : RtcAt w b s) :
    Calls Try.prog 19 #[.pointer (some ⟨b, 0, none⟩), .agg #[.int .u32 s.div, .int .u32 s.rest, .int .u32 s.set, .int .u64 s.sec, .int .u32 (s.alarm % 4294967296), .int .u32 (s.alarm / 4294967296), .bool s.en, .bool s.ra], .agg #[.int .i64 1, .int .u64 n, .int .u32 off, .int .u32 v]] w fun e w' => doneS b s e w' w := by
  go_enter Try.func19, Try.ntmps19
  go_wp2_with fail
  refine calls_box3 ?_
  intro W hB b0 b1 b2 hW
  have hlt : b < w.heap.size := RowAt.lt hR
  have R0 : RowAt W w.heap.size #[.int .u32 s.div, .int .u32 s.rest, .int .u32 s.set, .int .u64 s.sec, .int .u32 (s.alarm % 4294967296), .int .u32 (s.alarm / 4294967296), .bool s.en, .bool s.ra] 36 := b0
  have R1 : RowAt W (w.heap.size + 1) #[.int .i64 1, .int .u64 n, .int .u32 off, .int .u32 v] 40 := b1
  have R2 : RowAt W (w.heap.size + 1 + 1) #[.int .u32 0, .int .u32 0, .int .u32 0, .int .u64 0, .int .u32 0, .int .u32 0, .bool false, .bool false] 36 := b2
  have hR1 := RtcAt.ext hR hB
  have hF := but_of hB b
  clear b0 b1 b2 hR hB
  refine (rload_any s ok off W o0 o1).mono ?_
  rintro e w1 ⟨rfl, hB1⟩
  replace R0 := R0.ext hB1
  replace R1 := R1.ext hB1
  replace R2 := R2.ext hB1
  replace hR1 := RtcAt.ext hR1 hB1
  replace hF := hF.trans (but_of hB1 b)
  clear hB1
  have qR0 := rowAll R0
  have zR0 := rowFz R0
  have qR1 := rowAll R1
  have zR1 := rowFz R1
  go_wp2_with fail
  refine (load_any b s ok off _ o0 o1 hR1).mono ?_
  rintro e w2 ⟨rfl, hB2⟩
  clear qR0 zR0 qR1 zR1
  replace R0 := R0.ext hB2
  replace R1 := R1.ext hB2
  replace R2 := R2.ext hB2
  replace hR1 := RtcAt.ext hR1 hB2
  replace hF := hF.trans (but_of hB2 b)
  clear hB2
  have hF' := Lib.hid hF
  have hRR := Lib.hid hR1
  clear hF hR1
  have a0 := R0.cell (i := 0) rfl
  have a1 := R0.cell (i := 1) rfl
  have a2 := R0.cell (i := 2) rfl
  have a3 := R0.cell (i := 3) rfl
  have a4 := R0.cell (i := 4) rfl
  have a5 := R0.cell (i := 5) rfl
  have a6 := R0.cell (i := 6) rfl
  have a7 := R0.cell (i := 7) rfl
  have fa := rowFz R0
  have c0 := R2.cell (i := 0) rfl
  have c1 := R2.cell (i := 1) rfl
  have c2 := R2.cell (i := 2) rfl
  have c3 := R2.cell (i := 3) rfl
  have c4 := R2.cell (i := 4) rfl
  have c5 := R2.cell (i := 5) rfl
  have c6 := R2.cell (i := 6) rfl
  have c7 := R2.cell (i := 7) rfl
  have fz := rowFz R2
  go_upto_region 8 with (fail)
  go_region
  clear c0 c1 c2 c3 c4 c5 c6 c7 fz
  dsimp only [Exit.then]
  refine k_name (Pr := fun W' => RowAt W' (w.heap.size + 1 + 1) #[.int .u32 s.div, .int .u32 s.rest, .int .u32 s.set, .int .u64 s.sec, .int .u32 (s.alarm % 4294967296), .int .u32 (s.alarm / 4294967296), .bool s.en, .bool s.ra] 36 ∧ RtcAt W' b s ∧ But b w W') ⟨RowAt.drew (RowAt.set8 R2 _ _ _ _ _ _ _ _), RowAt.drew (RowAt.other (RowAt.other (RowAt.other (RowAt.other (RowAt.other (RowAt.other (RowAt.other (RowAt.other hRR.out (by dsimp only; omega) _) (by dsimp only; omega) _) (by dsimp only; omega) _) (by dsimp only; omega) _) (by dsimp only; omega) _) (by dsimp only; omega) _) (by dsimp only; omega) _) (by dsimp only; omega) _), But.drew (but_set (but_set (but_set (but_set (but_set (but_set (but_set (but_set hF'.out (by dsimp only; omega) _) (by dsimp only; omega) _) (by dsimp only; omega) _) (by dsimp only; omega) _) (by dsimp only; omega) _) (by dsimp only; omega) _) (by dsimp only; omega) _) (by dsimp only; omega) _)⟩ ?_
  rintro W3 ⟨R3, hR3, hF3⟩
  have c0 := R3.cell (i := 0) rfl
  have c1 := R3.cell (i := 1) rfl
  have c2 := R3.cell (i := 2) rfl
  have c3 := R3.cell (i := 3) rfl
  have c4 := R3.cell (i := 4) rfl
  have c5 := R3.cell (i := 5) rfl
  have c6 := R3.cell (i := 6) rfl
  have c7 := R3.cell (i := 7) rfl
  have fz := rowFz R3
  have hRR3 := Lib.hid hR3
  have hFF3 := Lib.hid hF3
  clear R3 hR3 hF3
  go_at_K
  go_wp2_with fail
  refine bodyPost_ret (v := .tuple #[.pointer (some ⟨b, 0, none⟩), .agg #[.int .u32 s.div, .int .u32 s.rest, .int .u32 s.set, .int .u64 s.sec, .int .u32 (s.alarm % 4294967296), .int .u32 (s.alarm / 4294967296), .bool s.en, .bool s.ra], .bool true]) (by simp [results, Try.results19, go_sem, c0, c1, c2, c3, c4, c5, c6, c7]) rfl ?_
  exact ⟨b, s, rfl, ok, hRR3.out, .inl rfl, hFF3.out⟩
set_option maxHeartbeats 40000000 in
set_option maxRecDepth 100000 in
theorem do_2 (b : Nat) (s : St) (ok : s.ok) (n off v : Int) (w : World) (n0 : 0 ≤ n) (n1 : n ≤ 18446744073709551615) (o0 : 0 ≤ off) (o1 : off ≤ 4294967295) (v0 : 0 ≤ v) (v1 : v ≤ 4294967295) (hR : RtcAt w b s) :
    Calls Try.prog 19 #[.pointer (some ⟨b, 0, none⟩), .agg #[.int .u32 s.div, .int .u32 s.rest, .int .u32 s.set, .int .u64 s.sec, .int .u32 (s.alarm % 4294967296), .int .u32 (s.alarm / 4294967296), .bool s.en, .bool s.ra], .agg #[.int .i64 2, .int .u64 n, .int .u32 off, .int .u32 v]] w fun e w' => doneS b s e w' w := by
  go_enter Try.func19, Try.ntmps19
  go_wp2_with fail
  refine calls_box3 ?_
  intro W hB b0 b1 b2 hW
  have hlt : b < w.heap.size := RowAt.lt hR
  have R0 : RowAt W w.heap.size #[.int .u32 s.div, .int .u32 s.rest, .int .u32 s.set, .int .u64 s.sec, .int .u32 (s.alarm % 4294967296), .int .u32 (s.alarm / 4294967296), .bool s.en, .bool s.ra] 36 := b0
  have R1 : RowAt W (w.heap.size + 1) #[.int .i64 2, .int .u64 n, .int .u32 off, .int .u32 v] 40 := b1
  have R2 : RowAt W (w.heap.size + 1 + 1) #[.int .u32 0, .int .u32 0, .int .u32 0, .int .u64 0, .int .u32 0, .int .u32 0, .bool false, .bool false] 36 := b2
  have hR1 := RtcAt.ext hR hB
  have hF := but_of hB b
  clear b0 b1 b2 hR hB
  refine (rstore_any s ok off v W o0 o1 v0 v1).mono ?_
  rintro e w1 ⟨rfl, hB1⟩
  have HS := Lib.hid (fun (w : World) (h : RtcAt w b s) => store_any b s ok off v w o0 o1 v0 v1 h)
  have ok1 := St.store_ok s ok off v v0 v1
  obtain ⟨s1, hs1⟩ : ∃ s1, (s.store off v).1 = s1 := ⟨_, rfl⟩
  obtain ⟨er, her⟩ : ∃ er, (s.store off v).2 = er := ⟨_, rfl⟩
  rw [hs1] at ok1 HS ⊢
  rw [her] at HS ⊢
  clear hs1 her ok
  replace R0 := R0.ext hB1
  replace R1 := R1.ext hB1
  replace R2 := R2.ext hB1
  replace hR1 := RtcAt.ext hR1 hB1
  replace hF := hF.trans (but_of hB1 b)
  have hl1 := R1.lt
  have hl2 := R2.lt
  clear hB1
  unfold St.rv
  have qR0 := rowAll R0
  have zR0 := rowFz R0
  have qR1 := rowAll R1
  have zR1 := rowFz R1
  go_upto_region 11 with (fail)
  refine wp_name (Pr := fun W' => RowAt W' w1.heap.size #[.int .u32 s1.div, .int .u32 s1.rest, .int .u32 s1.set, .int .u64 s1.sec, .int .u32 (s1.alarm % 4294967296), .int .u32 (s1.alarm / 4294967296), .bool s1.en, .bool s1.ra] 36 ∧ RowAt W' (w.heap.size + 1) #[.int .i64 2, .int .u64 n, .int .u32 off, .int .u32 v] 40 ∧ RowAt W' (w.heap.size + 1 + 1) #[.int .u32 0, .int .u32 0, .int .u32 0, .int .u64 0, .int .u32 0, .int .u32 0, .bool false, .bool false] 36 ∧ RtcAt W' b s ∧ But b w W') ⟨RowAt.new _ _ _, RowAt.alloc R1 _, RowAt.alloc R2 _, RowAt.alloc hR1 _, hF.alloc _⟩ ?_
  clear qR0 zR0 qR1 zR1 R0 R1 R2 hR1 hF
  rintro W4 ⟨R4, R1, R2, hR1, hF⟩
  have hb1 : w1.heap.size ≠ b := by omega
  have hF' := Lib.hid hF
  have hRR := Lib.hid hR1
  clear hF hR1
  have qR4 := rowAll R4
  have zR4 := rowFz R4
  have qR1 := rowAll R1
  have zR1 := rowFz R1
  go_region_with (go_at_call 13; refine (HS.out _ (RowAt.drew hRR.out)).mono ?_; rintro e wx ⟨rfl, hRx, hFx⟩; have R2x := RowAt.but (RowAt.drew R2) hFx (by omega); have R4x := RowAt.but (RowAt.drew R4) hFx hb1; have q4x := rowAll R4x; have z4x := rowFz R4x; have c0 := R2x.cell (i := 0) rfl; have c1 := R2x.cell (i := 1) rfl; have c2 := R2x.cell (i := 2) rfl; have c3 := R2x.cell (i := 3) rfl; have c4 := R2x.cell (i := 4) rfl; have c5 := R2x.cell (i := 5) rfl; have c6 := R2x.cell (i := 6) rfl; have c7 := R2x.cell (i := 7) rfl; have fz := rowFz R2x; have hRRx := Lib.hid hRx; have hFFx := Lib.hid (hF'.out.trans (But.drew (But.refl b W4) |>.trans hFx)); clear hRx hFx R4x)
  all_goals (
    dsimp only [Exit.then]
    refine k_name (Pr := fun W' => RowAt W' (w.heap.size + 1 + 1) #[.int .u32 s1.div, .int .u32 s1.rest, .int .u32 s1.set, .int .u64 s1.sec, .int .u32 (s1.alarm % 4294967296), .int .u32 (s1.alarm / 4294967296), .bool s1.en, .bool s1.ra] 36 ∧ RtcAt W' b s1 ∧ But b w W') ⟨(RowAt.set8 R2x _ _ _ _ _ _ _ _), (RowAt.other (RowAt.other (RowAt.other (RowAt.other (RowAt.other (RowAt.other (RowAt.other (RowAt.other hRRx.out (by dsimp only; omega) _) (by dsimp only; omega) _) (by dsimp only; omega) _) (by dsimp only; omega) _) (by dsimp only; omega) _) (by dsimp only; omega) _) (by dsimp only; omega) _) (by dsimp only; omega) _), (but_set (but_set (but_set (but_set (but_set (but_set (but_set (but_set hFFx.out (by dsimp only; omega) _) (by dsimp only; omega) _) (by dsimp only; omega) _) (by dsimp only; omega) _) (by dsimp only; omega) _) (by dsimp only; omega) _) (by dsimp only; omega) _) (by dsimp only; omega) _)⟩ ?_
    rintro W3 ⟨R3, hR3, hF3⟩
    have c0 := R3.cell (i := 0) rfl
    have c1 := R3.cell (i := 1) rfl
    have c2 := R3.cell (i := 2) rfl
    have c3 := R3.cell (i := 3) rfl
    have c4 := R3.cell (i := 4) rfl
    have c5 := R3.cell (i := 5) rfl
    have c6 := R3.cell (i := 6) rfl
    have c7 := R3.cell (i := 7) rfl
    have fz := rowFz R3
    have hRR3 := Lib.hid hR3
    have hFF3 := Lib.hid hF3
    clear R3 hR3 hF3
    go_at_K
    go_wp2_with fail
    refine bodyPost_ret (v := .tuple #[.pointer (some ⟨b, 0, none⟩), .agg #[.int .u32 s1.div, .int .u32 s1.rest, .int .u32 s1.set, .int .u64 s1.sec, .int .u32 (s1.alarm % 4294967296), .int .u32 (s1.alarm / 4294967296), .bool s1.en, .bool s1.ra], .bool true]) (by simp [results, Try.results19, go_sem, c0, c1, c2, c3, c4, c5, c6, c7]) rfl ?_
    exact ⟨b, s1, rfl, ok1, hRR3.out, .inl rfl, hFF3.out⟩
    )
theorem do_any (b : Nat) (s : St) (ok : s.ok) (k n off v : Int) (w : World) (n0 : 0 ≤ n) (n1 : n ≤ 18446744073709551615) (o0 : 0 ≤ off) (o1 : off ≤ 4294967295) (v0 : 0 ≤ v) (v1 : v ≤ 4294967295) (hR : RtcAt w b s) :
    Calls Try.prog 19 #[.pointer (some ⟨b, 0, none⟩), .agg #[.int .u32 s.div, .int .u32 s.rest, .int .u32 s.set, .int .u64 s.sec, .int .u32 (s.alarm % 4294967296), .int .u32 (s.alarm / 4294967296), .bool s.en, .bool s.ra], .agg #[.int .i64 k, .int .u64 n, .int .u32 off, .int .u32 v]] w fun e w' => doneS b s e w' w := by
  by_cases h0 : k = 0
  · subst h0; exact do_0 b s ok n off v w n0 n1 o0 o1 v0 v1 hR
  by_cases h1 : k = 1
  · subst h1; exact do_1 b s ok n off v w n0 n1 o0 o1 v0 v1 hR
  by_cases h2 : k = 2
  · subst h2; exact do_2 b s ok n off v w n0 n1 o0 o1 v0 v1 hR
  by_cases h3 : k = 3
  · subst h3; exact do_3 b s ok n off v w n0 n1 o0 o1 v0 v1 hR
  by_cases h4 : k = 4
  · subst h4; exact do_4 b s ok n off v w n0 n1 o0 o1 v0 v1 hR
  exact do_else b s ok k n off v w n0 n1 o0 o1 v0 v1 hR h0 h1 h2 h3 h4
end Go.Proofs.Ytdhgcmodlikckaa
