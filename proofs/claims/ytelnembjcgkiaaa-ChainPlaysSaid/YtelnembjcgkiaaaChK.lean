/- Chains at keys of two numbers: Copy. -/
import Derived.Test.YtelnembjcgkiaaaChJ
import Derived.Test.YtelnembjcgkiaaaAppS
import Derived.Shelf.SlMaps.Clone
import Derived.Shelf.Lay
import Derived.Lib.SliceRun
namespace Go.Proofs.Ytelnembjcgkiaaa
open Go.RowKit Go.Shelf Go.Maps
set_option linter.unusedVariables false
set_option linter.unusedSimpArgs false

shelf_lay_g SlLaysW.n5 Slmc 5 at Try 42 as Try.cloneC
theorem lkR_more (lk : Nat → Lk (Int × Int)) (n : Nat) (hz : ∀ j, n ≤ j → lk j = ⟨(0, 0), false, 0, 0⟩) : ∀ m, lkR lk (n + m) = lkR lk n ++ lkR zlk m
  | 0 => by simp [lkR, grpL]
  | m + 1 => by
    have h1 : lkR lk (n + (m + 1)) = lkR lk (n + m) ++ lkC (lk (n + m)) := grpL_succ (fun i => lkC (lk i)) (n + m)
    have h2 : lkR zlk (m + 1) = lkR zlk m ++ lkC (zlk m) := grpL_succ (fun i => lkC (zlk i)) m
    rw [h1, h2, lkR_more lk n hz m, hz (n + m) (by omega), List.append_assoc]
    rfl
theorem zero_lk (m : Nat) : Builtin.zeroCells #[.int .i64 0, .int .i64 0, .bool false, .int .i64 0, .int .i64 0] m = (lkR zlk m).toArray := by
  rw [← made_lk]
  rfl
set_option maxHeartbeats 8000000 in
set_option maxRecDepth 100000 in
theorem cloneL (bl n cp : Nat) (lk : Nat → Lk (Int × Int)) (w : World) (h : RowAt w bl (lkR lk cp).toArray 63 ) (h1 : 1 ≤ n) (hn : n ≤ 4096) (hc : n ≤ cp) (hz : ∀ j, n ≤ j → lk j = ⟨(0, 0), false, 0, 0⟩) :
    Calls Try.prog 43 #[.slice (some ⟨bl, 0, none⟩) n cp] w fun e w' => ∃ cp', e = .returned (.slice (some ⟨w.heap.size + 1, 0, none⟩) n cp') ∧ n ≤ cp' ∧ RowAt w' (w.heap.size + 1) (lkR lk cp').toArray 63 ∧ Below w.heap.size w w' := by
  obtain ⟨i, hi, hz0, hz1, hz2⟩ := info_parts (show (Try.prog.info? 63 ).map (fun i => (i.zero, i.size, i.bytes)) = some (some (.agg #[.int .i64 0, .int .i64 0, .bool false, .int .i64 0, .int .i64 0]), 5, 40) by kernel_rfl)
  obtain ⟨W, hW⟩ : ∃ W, w.alloc (.cells #[] 63 ) = W := ⟨_, rfl⟩
  have hWs : W.heap.size = w.heap.size + 1 := by rw [← hW]; simp
  have hl : (lkR lk n).length = n * i.size := by rw [lkR_len, hz1]
  have hnews : ∀ j v, (lkR lk n)[j]? = some v → W.cell? ((⟨bl, 0, none⟩ : Addr).add j) = some v := by
    intro j v hj
    rw [addr_add, Nat.zero_add]
    have hb : Below w.heap.size w W := hW ▸ below_new (Below.refl _ _) _
    refine (RowAt.ext h hb).cell ?_
    rw [List.getElem?_toArray, show cp = n + (cp - n) by omega, lkR_more lk n hz]
    rw [List.getElem?_append_left (List.getElem?_eq_some_iff.1 hj).1]
    exact hj
  have hr := run_append_grow (P := Try.prog) W 59 59 63 i _ Try.underlying59 hi hz0 ⟨w.heap.size, 0, none⟩ 0 0 [] (by simp) (by intro j v hj; cases hj) ⟨bl, 0, none⟩ n cp (lkR lk n) hl hnews (by omega) (by omega) (by rw [hz2]; exact growslice_fits (by omega) (by omega))
  have hge := grownCap_ge W (0 + n) 0 63
  obtain ⟨C, hC⟩ : ∃ C, grownCap W (0 + n) 0 63 = C := ⟨_, rfl⟩
  rw [hC] at hr hge
  have hrow : (#[] : Array Value) ++ (lkR lk n).toArray ++ Builtin.zeroCells (Value.agg #[.int .i64 0, .int .i64 0, .bool false, .int .i64 0, .int .i64 0]).cells (C - (0 + n)) = (lkR lk C).toArray := by
    show (#[] : Array Value) ++ (lkR lk n).toArray ++ Builtin.zeroCells #[.int .i64 0, .int .i64 0, .bool false, .int .i64 0, .int .i64 0] (C - (0 + n)) = _
    rw [zero_lk, show C = n + (C - (0 + n)) by omega, lkR_more lk n hz]
    simp
  have hr2 : (Builtin.append_ #[59, 59] 59 #[.slice (some ⟨w.heap.size, 0, none⟩) 0 0, .slice (some ⟨bl, 0, none⟩) n cp]).run Try.prog W = .ok (.slice (some ⟨w.heap.size + 1, 0, none⟩) n C) (W.drew.alloc (.cells (lkR lk C).toArray 63 )) := by
    rw [hr]
    have e1 : ([] : List Value).toArray = #[] := rfl
    rw [e1, hrow, hWs, Nat.zero_add]
  have HB := Lib.hid (show n ≤ C ∧ RowAt (W.drew.alloc (.cells (lkR lk C).toArray 63 )) (w.heap.size + 1) (lkR lk C).toArray 63 ∧ Below w.heap.size w (W.drew.alloc (.cells (lkR lk C).toArray 63 )) from ⟨by omega, hWs ▸ RowAt.new W.drew _ _, below_new (hW ▸ (below_new (Below.refl _ _) _).drew) _⟩)
  obtain ⟨R, hR⟩ : ∃ R, (lkR lk C).toArray = R := ⟨_, rfl⟩
  rw [hR] at hr2 HB
  have HR := Lib.hid hR
  clear hr hge hC hrow hl hnews hR h
  have q22 : ∀ w, (binOp .eql 59 (.slice (some ⟨bl, 0, none⟩) n cp) (.slice none 0 0)).run Try.prog w = .ok (.bool false) w := fun w => Lib.run_eql_slice_nil w 59 _ (some ⟨bl, 0, none⟩) n cp 0 0 Try.underlying59
  go_enter Try.func43, Try.ntmps43
  go_wp2_with (first | simp only [q22] | (at_builtin; refine wpList_append_eq rfl (.tmp 5) (.tmp 6) 59 rfl rfl rfl hr2 ?_) | fail)
  go_ret
  exact ⟨C, rfl, HB.out.1, HR.out ▸ HB.out.2.1, HB.out.2.2⟩
set_option maxHeartbeats 8000000 in
set_option maxRecDepth 100000 in
theorem cloneM (bm : Nat) (M : List (Ent (Int × Int))) (c : Nat) (w : World) (h : MapAt w bm ek M c) :
    Calls Try.prog 42 #[.map (some bm)] w fun e w' => ∃ g, e = .returned (.map (some g)) ∧ w.heap.size ≤ g ∧ MapAt w' g ek M c ∧ Below w.heap.size w w' := by
  refine (AnyW.maps_Clone Try.cloneC bm _ c w h).mono ?_
  rintro e w' ⟨rfl, rfl⟩
  exact ⟨_, rfl, Nat.le_refl _, heap_alloc_new w _, below_new (Below.refl _ _) _⟩
set_option maxHeartbeats 8000000 in
set_option maxRecDepth 100000 in
theorem copy_nil (w : World) :
    Calls Try.prog 23 #[.pointer none] w fun e w' => e = .returned (.pointer none) ∧ Below w.heap.size w w' := by
  go_enter Try.func23, Try.ntmps23
  go_wp2_with fail
  go_ret
  exact ⟨rfl, Below.refl _ _⟩
set_option maxHeartbeats 8000000 in
set_option maxRecDepth 100000 in
theorem copy_any (b bm bl n : Nat) (L : List ((Int × Int) × Nat)) (lk : Nat → Lk (Int × Int)) (w : World) (hA : ChAt w b bm bl n L lk) (h1 : 1 ≤ n) (hn : n ≤ 4096) :
    Calls Try.prog 23 #[.pointer (some ⟨b, 0, none⟩)] w fun e w' => ∃ b' bm' bl', e = .returned (.pointer (some ⟨b', 0, none⟩)) ∧ (w.heap.size ≤ b' ∧ w.heap.size ≤ bm' ∧ w.heap.size ≤ bl') ∧ ChAt w' b' bm' bl' n L lk ∧ Below w.heap.size w w' := by
  obtain ⟨M, c, cp, q⟩ := hA
  have hz : ∀ j, n ≤ j → lk j = ⟨(0, 0), false, 0, 0⟩ := fun j hj => q.rep.out j fun p hp e => by have := q.rep.lt p hp; omega
  have HM := Lib.hid (fun X (hX : Below w.heap.size w X) => cloneM bm M c X (q.m.ext hX))
  have HL := Lib.hid (fun X (hX : Below w.heap.size w X) => cloneL bl n cp lk X (RowAt.ext q.lks hX) h1 hn q.cple hz)
  have HS := Lib.hid (fun X (hX : Below w.heap.size w X) => (show X.cell? ⟨b, 0, none⟩ = some (.map (some bm)) ∧ X.cell? ⟨b, 1, none⟩ = some (.slice (some ⟨bl, 0, none⟩) n cp) from ⟨(RowAt.ext q.row hX).cell (i := 0) rfl, (RowAt.ext q.row hX).cell (i := 1) rfl⟩))
  have HQ := Lib.hid q
  have hb0 : Below w.heap.size w w.drew := (Below.refl _ _).drew
  have HB0 := Lib.hid hb0
  have HBR := Lib.hid (Below.refl w.heap.size w)
  clear q hz hb0
  go_enter Try.func23, Try.ntmps23
  go_upto_region 3 with fail
  go_region_held3 (fun X => X.cell? ⟨b, 0, none⟩ = some (.map (some bm)) ∧ X.cell? ⟨b, 1, none⟩ = some (.slice (some ⟨bl, 0, none⟩) n cp))
    (first | exact HS.out _ HB0.out | exact HS.out _ HB1.out | exact HS.out _ HB2.out | exact HS.out _ (below_new HB2.out _) | exact HS.out _ HBR.out)
    (first
      | (go_at_call 42; refine (HM.out _ HB1.out).mono ?_; rintro e w2 ⟨bm', rfl, hg2, hm2, hb2⟩; have HB2 := Lib.hid (below_then HB1.out hb2); have HF2 := Lib.hid (And.intro hg2 (And.intro hm2 hb2)); clear hg2 hm2 hb2)
      | (go_at_call 43; refine (HL.out _ HB1.out).mono ?_; rintro e w2 ⟨cp', rfl, hc2, hr2, hb2⟩; have HB2 := Lib.hid (below_then HB1.out hb2); have HF2 := Lib.hid (And.intro hc2 (And.intro hr2 hb2)); clear hc2 hr2 hb2)
      | (go_at_call 42; refine (HM.out _ HB0.out).mono ?_; rintro e w1 ⟨bm', rfl, hg1, hm1, hb1⟩; have HB1 := Lib.hid (below_then HB0.out hb1); have HF1 := Lib.hid (And.intro hg1 (And.intro hm1 hb1)); clear hg1 hm1 hb1)
      | (go_at_call 43; refine (HL.out _ HB0.out).mono ?_; rintro e w1 ⟨cp', rfl, hc1, hr1, hb1⟩; have HB1 := Lib.hid (below_then HB0.out hb1); have HF1 := Lib.hid (And.intro hc1 (And.intro hr1 hb1)); clear hc1 hr1 hb1))
  have hrow := RowAt.new w2 #[.map (some bm'), .slice (some ⟨w1.heap.size + 1, 0, none⟩) n cp'] 61
  have hm2 := (HF1.out.2.1.ext HF2.out.2.2).alloc (.cells #[.map (some bm'), .slice (some ⟨w1.heap.size + 1, 0, none⟩) n cp'] 61 )
  have hl2 := HF2.out.2.1.alloc (.cells #[.map (some bm'), .slice (some ⟨w1.heap.size + 1, 0, none⟩) n cp'] 61 )
  have k1 := HF1.out.1
  have k2 := HF1.out.2.1.lt
  have k3 := HF2.out.2.1.lt
  have k4 := HB1.out.size
  have k5 := HB2.out.size
  have k6 := HB0.out.size
  have HFIN := Lib.hid (show (w.heap.size ≤ w2.heap.size ∧ w.heap.size ≤ bm' ∧ w.heap.size ≤ w1.heap.size + 1) ∧ ChAt (w2.alloc (.cells #[.map (some bm'), .slice (some ⟨w1.heap.size + 1, 0, none⟩) n cp'] 61 )) w2.heap.size bm' (w1.heap.size + 1) n L lk ∧ Below w.heap.size w (w2.alloc (.cells #[.map (some bm'), .slice (some ⟨w1.heap.size + 1, 0, none⟩) n cp'] 61 )) from
    ⟨⟨by omega, by omega, by omega⟩, ⟨M, c, cp', { HQ.out with row := hrow, m := hm2, lks := hl2, cple := HF2.out.1, ne1 := by omega, ne2 := by omega, ne3 := by omega }⟩, below_new HB2.out _⟩)
  clear hrow hm2 hl2 k1 k2 k3 k4 k5 k6
  dsimp only [Exit.then]
  go_wp2_with fail
  go_ret
  exact ⟨_, _, _, rfl, HFIN.out⟩
end Go.Proofs.Ytelnembjcgkiaaa
