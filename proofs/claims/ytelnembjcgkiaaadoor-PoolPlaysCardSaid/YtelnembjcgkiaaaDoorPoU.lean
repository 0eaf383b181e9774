/- Copy of a pool. -/
import Derived.Test.YtelnembjcgkiaaaDoorPoT
import Derived.Test.YtelnembjcgkiaaaDoorPoS
import Derived.Test.YtelnembjcgkiaaaDoorAppS
import Derived.Shelf.SlMaps.Clone
import Derived.Shelf.Lay
import Derived.Lib.SliceRun
namespace Go.Proofs.YtelnembjcgkiaaaDoor
open Go.RowKit Go.Shelf Go.Maps
set_option linter.unusedVariables false
set_option linter.unusedSimpArgs false

shelf_lay_g SlLaysW.n5 Slmc 5 at Tryd 35 as Tryd.cloneE
shelf_lay_g SlLaysW.n5 Slmc 5 at Tryd 36 as Tryd.cloneO
theorem zeroC64 (m : Nat) : Builtin.zeroCells #[.int .u64 0] m = ints .u64 (List.replicate m 0) := by
  rw [← made_zero]
  rfl
/-- The words of a copy. -/
def wcp (ws : List Int) (n C : Nat) : List Int := ws.take n ++ List.replicate (C - n) 0
set_option maxHeartbeats 8000000 in
set_option maxRecDepth 100000 in
theorem cloneW (bt n : Nat) (ws : List Int) (w : World) (h : RowAt w bt (ints .u64 ws) 23 ) (h1 : 1 ≤ n) (hn : n ≤ 4096) (hc : n ≤ ws.length) :
    Calls Tryd.prog 37 #[.slice (some ⟨bt, 0, none⟩) n ws.length] w fun e w' => ∃ C, e = .returned (.slice (some ⟨w.heap.size + 1, 0, none⟩) n C) ∧ n ≤ C ∧ RowAt w' (w.heap.size + 1) (ints .u64 (wcp ws n C)) 23 ∧ Below w.heap.size w w' := by
  obtain ⟨i, hi, hz0, hz1, hz2⟩ := info_parts (show (Tryd.prog.info? 23 ).map (fun i => (i.zero, i.size, i.bytes)) = some (some (.int .u64 0), 1, 8) by kernel_rfl)
  obtain ⟨W, hW⟩ : ∃ W, w.alloc (.cells #[] 23 ) = W := ⟨_, rfl⟩
  have hWs : W.heap.size = w.heap.size + 1 := by rw [← hW]; simp
  have hl : ((ws.take n).map (Value.int .u64)).length = n * i.size := by rw [List.length_map, List.length_take, hz1]; omega
  have hnews : ∀ j v, ((ws.take n).map (Value.int .u64))[j]? = some v → W.cell? ((⟨bt, 0, none⟩ : Addr).add j) = some v := by
    intro j v hj
    rw [addr_add, Nat.zero_add]
    have hb : Below w.heap.size w W := hW ▸ below_new (Below.refl _ _) _
    refine (RowAt.ext h hb).cell ?_
    unfold ints
    rw [List.getElem?_toArray]
    rw [List.map_take, List.getElem?_take] at hj
    split at hj
    · exact hj
    · cases hj
  have hr := run_append_grow (P := Tryd.prog) W 28 28 23 i _ Tryd.underlying28 hi hz0 ⟨w.heap.size, 0, none⟩ 0 0 [] (by simp) (by intro j v hj; cases hj) ⟨bt, 0, none⟩ n ws.length ((ws.take n).map (Value.int .u64)) hl hnews (by omega) (by omega) (by rw [hz2]; exact growslice_fits (by omega) (by omega))
  have hge := grownCap_ge W (0 + n) 0 23
  obtain ⟨C, hC⟩ : ∃ C, grownCap W (0 + n) 0 23 = C := ⟨_, rfl⟩
  rw [hC] at hr hge
  have hrow : (#[] : Array Value) ++ ((ws.take n).map (Value.int .u64)).toArray ++ Builtin.zeroCells (Value.int .u64 0).cells (C - (0 + n)) = ints .u64 (wcp ws n C) := by
    show (#[] : Array Value) ++ ((ws.take n).map (Value.int .u64)).toArray ++ Builtin.zeroCells #[.int .u64 0] (C - (0 + n)) = _
    rw [zeroC64, Nat.zero_add]
    unfold ints wcp
    simp
  have hr2 : (Builtin.append_ #[28, 28] 28 #[.slice (some ⟨w.heap.size, 0, none⟩) 0 0, .slice (some ⟨bt, 0, none⟩) n ws.length]).run Tryd.prog W = .ok (.slice (some ⟨w.heap.size + 1, 0, none⟩) n C) (W.drew.alloc (.cells (ints .u64 (wcp ws n C)) 23 )) := by
    rw [hr]
    have e1 : ([] : List Value).toArray = #[] := rfl
    rw [e1, hrow, hWs, Nat.zero_add]
  have HB := Lib.hid (show n ≤ C ∧ RowAt (W.drew.alloc (.cells (ints .u64 (wcp ws n C)) 23 )) (w.heap.size + 1) (ints .u64 (wcp ws n C)) 23 ∧ Below w.heap.size w (W.drew.alloc (.cells (ints .u64 (wcp ws n C)) 23 )) from ⟨by omega, hWs ▸ RowAt.new W.drew _ _, below_new (hW ▸ (below_new (Below.refl _ _) _).drew) _⟩)
  obtain ⟨K, hK⟩ : ∃ K, ws.length = K := ⟨_, rfl⟩
  rw [hK] at hr2 ⊢
  obtain ⟨R, hR⟩ : ∃ R, ints .u64 (wcp ws n C) = R := ⟨_, rfl⟩
  rw [hR] at hr2 HB
  have HR := Lib.hid hR
  clear hr hge hC hrow hl hnews hR h hK hc
  have q22 : ∀ w, (binOp .eql 28 (.slice (some ⟨bt, 0, none⟩) n K) (.slice none 0 0)).run Tryd.prog w = .ok (.bool false) w := fun w => Lib.run_eql_slice_nil w 28 _ (some ⟨bt, 0, none⟩) n K 0 0 Tryd.underlying28
  go_enter Tryd.func37, Tryd.ntmps37
  go_wp2_with (first | simp only [q22] | (at_builtin; refine wpList_append_eq rfl (.tmp 5) (.tmp 6) 28 rfl rfl rfl hr2 ?_) | fail)
  go_ret
  exact ⟨C, rfl, HB.out.1, HR.out ▸ HB.out.2.1, HB.out.2.2⟩
set_option maxHeartbeats 8000000 in
set_option maxRecDepth 100000 in
theorem cloneME (bm : Nat) (M : List (Ent Int)) (c : Nat) (w : World) (h : MapAt w bm pl M c) :
    Calls Tryd.prog 35 #[.map (some bm)] w fun e w' => ∃ g, e = .returned (.map (some g)) ∧ w.heap.size ≤ g ∧ MapAt w' g pl M c ∧ Below w.heap.size w w' := by
  refine (AnyW.maps_Clone Tryd.cloneE bm _ c w h).mono ?_
  rintro e w' ⟨rfl, rfl⟩
  exact ⟨_, rfl, Nat.le_refl _, heap_alloc_new w _, below_new (Below.refl _ _) _⟩
set_option maxHeartbeats 8000000 in
set_option maxRecDepth 100000 in
theorem cloneMO (bm : Nat) (M : List (Ent Int)) (c : Nat) (w : World) (h : MapAt w bm pl M c) :
    Calls Tryd.prog 36 #[.map (some bm)] w fun e w' => ∃ g, e = .returned (.map (some g)) ∧ w.heap.size ≤ g ∧ MapAt w' g pl M c ∧ Below w.heap.size w w' := by
  refine (AnyW.maps_Clone Tryd.cloneO bm _ c w h).mono ?_
  rintro e w' ⟨rfl, rfl⟩
  exact ⟨_, rfl, Nat.le_refl _, heap_alloc_new w _, below_new (Below.refl _ _) _⟩
theorem wcp_len (ws : List Int) (n C : Nat) (h : n ≤ ws.length) (hC : n ≤ C) : (wcp ws n C).length = C := by
  unfold wcp
  rw [List.length_append, List.length_take, List.length_replicate]
  omega
theorem wcp_getD (ws : List Int) (n C : Nat) (h : n ≤ ws.length) (i : Nat) : (wcp ws n C).getD i 0 = if i < n then ws.getD i 0 else 0 := by
  unfold wcp
  simp only [List.getD_eq_getElem?_getD]
  by_cases hi : i < n
  · rw [if_pos hi, List.getElem?_append_left (by rw [List.length_take]; omega), List.getElem?_take, if_pos hi]
  · rw [if_neg hi, List.getElem?_append_right (by rw [List.length_take]; omega), List.getElem?_replicate]
    split <;> rfl
theorem PoIn.copied {w w' : World} {b be bo bt : Nat} {p : Po} {M1 : List (Ent Int)} {c1 : Nat} {M2 : List (Ent Int)} {c2 : Nat} {ws : List Int} (h : PoIn w b be bo bt p M1 c1 M2 c2 ws) {b' be' bo' bt' C : Nat} (hC : nw p.room ≤ C)
    (hrow : RowAt w' b' #[.map (some be'), .map (some bo'), .slice (some ⟨bt', 0, none⟩) (nw p.room) C, .int .i64 p.room] 69)
    (h1 : MapAt w' be' pl M1 c1) (h2 : MapAt w' bo' pl M2 c2) (h3 : RowAt w' bt' (ints .u64 (wcp ws (nw p.room) C)) 23 ) (ne1 : b' ≠ be') (ne2 : b' ≠ bo') (ne3 : b' ≠ bt') (ne4 : be' ≠ bo') (ne5 : be' ≠ bt') (ne6 : bo' ≠ bt') : PoAt w' b' be' bo' bt' p := by
  have hlen := wcp_len ws (nw p.room) C h.wl hC
  refine ⟨M1, c1, M2, c2, wcp ws (nw p.room) C, ⟨by rw [hlen]; exact hrow, h1, h2, h3, h.ok1, h.ok2, h.v1, h.v2, by rw [hlen]; exact hC, fun i => ?_, fun i s hi hs => ?_, h.len, ne1, ne2, ne3, ne4, ne5, ne6⟩⟩
  · rw [wcp_getD ws _ C h.wl]
    split
    · exact h.wr i
    · exact ⟨by omega, by omega⟩
  · rw [wcp_getD ws _ C h.wl, if_pos hi]
    exact h.wb i s hi hs
end Go.Proofs.YtelnembjcgkiaaaDoor
