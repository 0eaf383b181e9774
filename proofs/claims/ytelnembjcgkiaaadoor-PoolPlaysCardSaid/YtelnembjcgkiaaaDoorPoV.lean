/- Copy of a pool: the walk. -/
import Derived.Test.YtelnembjcgkiaaaDoorPoU
namespace Go.Proofs.YtelnembjcgkiaaaDoor
open Go.RowKit
set_option linter.unusedVariables false
set_option linter.unusedSimpArgs false

set_option maxHeartbeats 8000000 in
set_option maxRecDepth 100000 in
theorem copyPo_any (b be bo bt : Nat) (p : Po) (w : World) (hA : PoAt w b be bo bt p) (ok : p.ok) :
    Calls Tryd.prog 25 #[.pointer (some ⟨b, 0, none⟩)] w fun e w' => ∃ b' be' bo' bt', e = .returned (.pointer (some ⟨b', 0, none⟩)) ∧ (w.heap.size ≤ b' ∧ w.heap.size ≤ be' ∧ w.heap.size ≤ bo' ∧ w.heap.size ≤ bt') ∧ PoAt w' b' be' bo' bt' p ∧ Below w.heap.size w w' := by
  obtain ⟨M1, c1, M2, c2, ws, q⟩ := hA
  have hn : 1 ≤ nw p.room ∧ nw p.room ≤ 4096 := by have := ok.r1; have := ok.r2; unfold nw; omega
  have HE := Lib.hid (fun X (hX : Below w.heap.size w X) => cloneME be M1 c1 X (q.m1.ext hX))
  have HO := Lib.hid (fun X (hX : Below w.heap.size w X) => cloneMO bo M2 c2 X (q.m2.ext hX))
  have HW := Lib.hid (fun X (hX : Below w.heap.size w X) => cloneW bt (nw p.room) ws X (RowAt.ext q.row3 hX) hn.1 hn.2 q.wl)
  have HS := Lib.hid (fun X (hX : Below w.heap.size w X) => (show X.cell? ⟨b, 0, none⟩ = some (.map (some be)) ∧ X.cell? ⟨b, 1, none⟩ = some (.map (some bo)) ∧ X.cell? ⟨b, 2, none⟩ = some (.slice (some ⟨bt, 0, none⟩) (nw p.room) ws.length) ∧ X.cell? ⟨b, 3, none⟩ = some (.int .i64 p.room) from ⟨(RowAt.ext q.row hX).cell (i := 0) rfl, (RowAt.ext q.row hX).cell (i := 1) rfl, (RowAt.ext q.row hX).cell (i := 2) rfl, (RowAt.ext q.row hX).cell (i := 3) rfl⟩))
  have HQ := Lib.hid q
  have HB0 := Lib.hid ((Below.refl w.heap.size w).drew)
  have HBR := Lib.hid (Below.refl w.heap.size w)
  have HZ := Lib.hid (show w.drew.heap.size = w.heap.size from rfl)
  clear q hn
  go_enter Tryd.func25, Tryd.ntmps25
  go_upto_region 3 with fail
  go_region_held3 (fun X => X.cell? ⟨b, 0, none⟩ = some (.map (some be)) ∧ X.cell? ⟨b, 1, none⟩ = some (.map (some bo)) ∧ X.cell? ⟨b, 2, none⟩ = some (.slice (some ⟨bt, 0, none⟩) (nw p.room) ws.length) ∧ X.cell? ⟨b, 3, none⟩ = some (.int .i64 p.room))
    (first | exact HS.out _ HB0.out | exact HS.out _ HB1.out | exact HS.out _ HB2.out | exact HS.out _ HB3.out | exact HS.out _ (below_new HB3.out _) | exact HS.out _ HBR.out)
    (first
      | (go_at_call 35; refine (HE.out _ HB2.out).mono ?_; rintro e w3 ⟨bE, rfl, hg, hm, hb⟩; have HB3 := Lib.hid (below_then HB2.out hb); have HN3 := Lib.hid hb; have HFE := Lib.hid (show (∀ X, Below w3.heap.size w3 X → MapAt X bE pl _ _) ∧ (w2.heap.size ≤ bE ∧ bE < w3.heap.size) from ⟨fun X hX => hm.ext hX, hg, hm.lt⟩); clear hg hm hb)
      | (go_at_call 36; refine (HO.out _ HB2.out).mono ?_; rintro e w3 ⟨bO, rfl, hg, hm, hb⟩; have HB3 := Lib.hid (below_then HB2.out hb); have HN3 := Lib.hid hb; have HFO := Lib.hid (show (∀ X, Below w3.heap.size w3 X → MapAt X bO pl _ _) ∧ (w2.heap.size ≤ bO ∧ bO < w3.heap.size) from ⟨fun X hX => hm.ext hX, hg, hm.lt⟩); clear hg hm hb)
      | (go_at_call 37; refine (HW.out _ HB2.out).mono ?_; rintro e w3 ⟨C, rfl, hg, hm, hb⟩; have HB3 := Lib.hid (below_then HB2.out hb); have HN3 := Lib.hid hb; have HFW := Lib.hid (show (∀ X, Below w3.heap.size w3 X → RowAt X (w2.heap.size + 1) (ints .u64 (wcp ws (nw p.room) C)) 23 ) ∧ (w2.heap.size + 1 < w3.heap.size) ∧ nw p.room ≤ C from ⟨fun X hX => RowAt.ext hm hX, hm.lt, hg⟩); clear hg hm hb)
      | (go_at_call 35; refine (HE.out _ HB1.out).mono ?_; rintro e w2 ⟨bE, rfl, hg, hm, hb⟩; have HB2 := Lib.hid (below_then HB1.out hb); have HN2 := Lib.hid hb; have HFE := Lib.hid (show (∀ X, Below w2.heap.size w2 X → MapAt X bE pl _ _) ∧ (w1.heap.size ≤ bE ∧ bE < w2.heap.size) from ⟨fun X hX => hm.ext hX, hg, hm.lt⟩); clear hg hm hb)
      | (go_at_call 36; refine (HO.out _ HB1.out).mono ?_; rintro e w2 ⟨bO, rfl, hg, hm, hb⟩; have HB2 := Lib.hid (below_then HB1.out hb); have HN2 := Lib.hid hb; have HFO := Lib.hid (show (∀ X, Below w2.heap.size w2 X → MapAt X bO pl _ _) ∧ (w1.heap.size ≤ bO ∧ bO < w2.heap.size) from ⟨fun X hX => hm.ext hX, hg, hm.lt⟩); clear hg hm hb)
      | (go_at_call 37; refine (HW.out _ HB1.out).mono ?_; rintro e w2 ⟨C, rfl, hg, hm, hb⟩; have HB2 := Lib.hid (below_then HB1.out hb); have HN2 := Lib.hid hb; have HFW := Lib.hid (show (∀ X, Below w2.heap.size w2 X → RowAt X (w1.heap.size + 1) (ints .u64 (wcp ws (nw p.room) C)) 23 ) ∧ (w1.heap.size + 1 < w2.heap.size) ∧ nw p.room ≤ C from ⟨fun X hX => RowAt.ext hm hX, hm.lt, hg⟩); clear hg hm hb)
      | (go_at_call 35; refine (HE.out _ HB0.out).mono ?_; rintro e w1 ⟨bE, rfl, hg, hm, hb⟩; have HB1 := Lib.hid (below_then HB0.out hb); have HN1 := Lib.hid hb; have HFE := Lib.hid (show (∀ X, Below w1.heap.size w1 X → MapAt X bE pl _ _) ∧ (w.drew.heap.size ≤ bE ∧ bE < w1.heap.size) from ⟨fun X hX => hm.ext hX, hg, hm.lt⟩); clear hg hm hb)
      | (go_at_call 36; refine (HO.out _ HB0.out).mono ?_; rintro e w1 ⟨bO, rfl, hg, hm, hb⟩; have HB1 := Lib.hid (below_then HB0.out hb); have HN1 := Lib.hid hb; have HFO := Lib.hid (show (∀ X, Below w1.heap.size w1 X → MapAt X bO pl _ _) ∧ (w.drew.heap.size ≤ bO ∧ bO < w1.heap.size) from ⟨fun X hX => hm.ext hX, hg, hm.lt⟩); clear hg hm hb)
      | (go_at_call 37; refine (HW.out _ HB0.out).mono ?_; rintro e w1 ⟨C, rfl, hg, hm, hb⟩; have HB1 := Lib.hid (below_then HB0.out hb); have HN1 := Lib.hid hb; have HFW := Lib.hid (show (∀ X, Below w1.heap.size w1 X → RowAt X (w.drew.heap.size + 1) (ints .u64 (wcp ws (nw p.room) C)) 23 ) ∧ (w.drew.heap.size + 1 < w1.heap.size) ∧ nw p.room ≤ C from ⟨fun X hX => RowAt.ext hm hX, hm.lt, hg⟩); clear hg hm hb))
  have mE : MapAt w3 bE pl M1 c1 := by first | exact HFE.out.1 _ (Below.refl _ _) | exact HFE.out.1 _ HN3.out | exact HFE.out.1 _ (below_then HN2.out HN3.out)
  have mO : MapAt w3 bO pl M2 c2 := by first | exact HFO.out.1 _ (Below.refl _ _) | exact HFO.out.1 _ HN3.out | exact HFO.out.1 _ (below_then HN2.out HN3.out)
  have k1 := HFE.out.2
  have k2 := HFO.out.2
  have k3 := HFW.out.2.1
  have mW := HFW.out.1 _ (Below.refl _ _)
  have k3b := HFW.out.2.2
  have k4 := HB1.out.size
  have k5 := HB2.out.size
  have k6 := HB3.out.size
  have k7 := HN2.out.size
  have k8 := HN3.out.size
  have k9 := HZ.out
  have ak := fun (O : Obj) => below_new (Below.refl w3.heap.size w3) O
  have HFIN := Lib.hid (show (w.heap.size ≤ w3.heap.size ∧ w.heap.size ≤ bE ∧ w.heap.size ≤ bO ∧ w.heap.size ≤ w2.heap.size + 1) ∧ PoAt (w3.alloc (.cells #[.map (some bE), .map (some bO), .slice (some ⟨w2.heap.size + 1, 0, none⟩) (nw p.room) C, .int .i64 p.room] 69)) w3.heap.size bE bO (w2.heap.size + 1) p ∧ Below w.heap.size w (w3.alloc (.cells #[.map (some bE), .map (some bO), .slice (some ⟨w2.heap.size + 1, 0, none⟩) (nw p.room) C, .int .i64 p.room] 69)) from
    ⟨⟨by omega, by omega, by omega, by omega⟩, HQ.out.copied k3b (RowAt.new w3 _ _) (mE.ext (ak _)) (mO.ext (ak _)) (RowAt.ext mW (ak _)) (by omega) (by omega) (by omega) (by omega) (by omega) (by omega), below_new HB3.out _⟩)
  clear mE mO mW k1 k2 k3 k3b k4 k5 k6 k7 k8 k9 ak
  dsimp only [Exit.then]
  go_wp2_with fail
  go_ret
  exact ⟨_, _, _, _, rfl, HFIN.out⟩
end Go.Proofs.YtelnembjcgkiaaaDoor
