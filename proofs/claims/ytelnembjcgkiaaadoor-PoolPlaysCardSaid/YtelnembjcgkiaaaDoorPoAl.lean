/- Are a pool and the document's the same. -/
import Derived.Test.YtelnembjcgkiaaaDoorPoZe
import Derived.Test.YtelnembjcgkiaaaDoorPoT
import Derived.Test.YtelnembjcgkiaaaDoorPoZd
namespace Go.Proofs.YtelnembjcgkiaaaDoor
open Go.RowKit
set_option linter.unusedVariables false
set_option linter.unusedSimpArgs false

theorem Sl.lst {w : World} {v : Value} {L : List Int} {ok : Nat → Prop} {kd : IntKind} (h : Sl w v L.length (L.map (Value.int kd)) ok) : Lst kd w v L ok := by
  obtain ⟨a, cap, rfl, h2, h3, h4⟩ := h
  refine ⟨a, cap, rfl, h2, h3, fun h0 => ?_⟩
  obtain ⟨g, q1, q2, q3, q4⟩ := h4 h0
  refine ⟨_, q1, q2, q3, fun k hk => ?_⟩
  rw [addr_add, Nat.zero_add]
  exact q4 k _ (by rw [List.getElem?_map, List.getElem?_eq_getElem hk]; rfl)
theorem lst_own {w : World} {base : Nat} {v : Value} {T S : List Int} {p : Po} (hT : T = S.map (hv p)) (h : w.ownsRow base 23 1 v S.length (S.map fun x => .int .u64 (hv p x))) : Lst .u64 w v T (fun g => base ≤ g) := by
  subst hT
  refine Lst.of_own (e := 23) ?_
  rw [List.length_map, List.map_map]
  exact h
theorem hand_place {p : Po} {S : List Int} (ok : p.ok) (hS : Places p S) {i : Nat} (hi : i < (S.map (hv p)).length) : ∃ X : Nat, (S.map (hv p))[i] = hv p (X : Int) ∧ X < p.room ∧ p.tk X = true := by
  rw [List.length_map] at hi
  have hm := (hS.mem S[i]).1 (List.getElem_mem hi)
  have hr := ok.inr _ hm
  refine ⟨S[i].toNat, ?_, by omega, ?_⟩
  · rw [List.getElem_map, show ((S[i].toNat : Nat) : Int) = S[i] by omega]
  · unfold Po.tk
    rw [show ((S[i].toNat : Nat) : Int) = S[i] by omega]
    exact hm
set_option maxHeartbeats 8000000 in
set_option maxRecDepth 100000 in
theorem get_hv (b be bo bt : Nat) (p : Po) (w : World) (hA : PoAt w b be bo bt p) (ok : p.ok) (X : Nat) (hX : X < p.room) (ht : p.tk X = true) (e1 e2 e3 : Int) (he : (p.ent (X : Int)).getD (0, 0, 0) = (e1, e2, e3)) :
    Calls Tryd.prog 11 #[.pointer (some ⟨b, 0, none⟩), .int .u64 (hv p (X : Int))] w fun e w' => e = .returned (.tuple #[.agg #[.int .u64 e1, .int .u64 e2, .int .u64 e3], .bool true]) ∧ Below w.heap.size w w' := by
  have h4 : X < 4096 := Nat.lt_of_lt_of_le hX ok.r2
  obtain ⟨f1, f2⟩ := find_hv p X h4 ht
  obtain ⟨g1, g2⟩ := hv_range p ok X h4
  refine (get_yes b be bo bt p w hA ok _ g1 g2 f2).mono ?_
  rintro e w' ⟨rfl, hb⟩
  rw [f1, he]
  exact ⟨rfl, hb⟩
set_option maxHeartbeats 8000000 in
set_option maxRecDepth 100000 in
theorem place_hv (b be bo bt : Nat) (p : Po) (w : World) (hA : PoAt w b be bo bt p) (ok : p.ok) (X : Nat) (hX : X < p.room) (ht : p.tk X = true) :
    Calls Tryd.prog 12 #[.pointer (some ⟨b, 0, none⟩), .int .u64 (hv p (X : Int))] w fun e w' => e = .returned (.int .i64 X) ∧ Below w.heap.size w w' := by
  have h4 : X < 4096 := Nat.lt_of_lt_of_le hX ok.r2
  obtain ⟨f1, f2⟩ := find_hv p X h4 ht
  obtain ⟨g1, g2⟩ := hv_range p ok X h4
  refine (place_yes b be bo bt p w hA ok _ g1 g2 f2).mono ?_
  rintro e w' ⟨rfl, hb⟩
  rw [f1]
  exact ⟨rfl, hb⟩
set_option maxHeartbeats 8000000 in
set_option maxRecDepth 100000 in
theorem rfind_hv (p : Po) (ok : p.ok) (v : Value) (okb : Nat → Prop) (w : World) (hV : Sl w v (pts p).length (fl5 (pts p)) okb) (X : Nat) (hX : X < p.room) (ht : p.tk X = true) :
    Calls Tryd.prog 19 #[v, .int .u64 (hv p (X : Int))] w fun e w' => e = .returned (.int .i64 X) ∧ Below w.heap.size w w' := by
  have h4 : X < 4096 := Nat.lt_of_lt_of_le hX ok.r2
  obtain ⟨f1, f2⟩ := find_hv p X h4 ht
  obtain ⟨g1, g2⟩ := hv_range p ok X h4
  refine (rfind_po p ok v okb w hV _ g1 g2).mono ?_
  rintro e w' ⟨rfl, hb⟩
  rw [f1, if_pos f2]
  exact ⟨rfl, hb⟩
set_option maxHeartbeats 8000000 in
set_option maxRecDepth 100000 in
theorem alike_any (b be bo bt : Nat) (p : Po) (w : World) (hA : PoAt w b be bo bt p) (ok : p.ok) (v : Value) (okb : Nat → Prop) (hV : Sl w v (pts p).length (fl5 (pts p)) okb) :
    Calls Tryd.prog 26 #[.pointer (some ⟨b, 0, none⟩), v] w fun e w' => e = .returned (.bool true) ∧ Below w.heap.size w w' := by
  have hl4 : (pts p).length ≤ 4096 := by rw [pts_len]; exact ok.r2
  have hrh := rhandles_any (pts p) v okb w hV hl4 (pts_bound ok)
  have hle := hnd_le (pts p) 0
  obtain ⟨T, hT⟩ : ∃ T, hnd 0 (pts p) = T := ⟨_, rfl⟩
  rw [hT] at hrh hle
  have HRH := Lib.hid hrh
  have HT := Lib.hid hT
  have HTL := Lib.hid (show T.length ≤ 1000000 by omega)
  have HA := Lib.hid hA
  have HV := Lib.hid hV
  rw [pts_len] at hV
  obtain ⟨a, cap, rfl, -⟩ := hV
  clear hl4 hrh hle hT hA
  go_enter Tryd.func26, Tryd.ntmps26
  go_upto_region 2 with (go_at_call 24; refine HRH.out.mono ?_; rintro e w1 ⟨u, rfl, hu, hb1⟩)
  obtain ⟨N, hN⟩ : ∃ N, T.length = N := ⟨_, rfl⟩
  have HU := Lib.hid hu
  have HN := Lib.hid hN
  rw [hN] at hu
  obtain ⟨a1, c1, rfl, -⟩ := hu
  have HB1 := Lib.hid hb1
  have B0 := Lib.hid (Below.refl w1.heap.size w1)
  clear hN hb1 HRH
  go_upto_region 4 with (first
    | (go_at_call 28; refine (handles_any b be bo bt p _ (HA.out.ext HB1.out) ok).mono ?_; rintro e w2 ⟨S, v2, rfl, hS, hO, hb2⟩; have HTS := Lib.hid (show T = S.map (hv p) by rw [← HT.out]; exact hnd_pts p S hS ok); have HPL := Lib.hid hS; have HC := Lib.hid (show p.cnt = N by rw [← HN.out, HTS.out, List.length_map]; exact hS.len.symm); have HL2 := Lib.hid (lst_own HTS.out hO); have B2 := Lib.hid hb2; clear hS hO hb2)
    | (go_at_call 38; refine (sameH_any T T _ _ _ _ _ HL2.out (Sl.lst (HU.out.ext B2.out)) (Nat.le_trans HTL.out (by decide)) (Nat.le_trans HTL.out (by decide))).mono ?_; rintro e w3 ⟨rfl, hb3⟩; rw [decide_eq_true rfl]; have B3 := Lib.hid (below_then B2.out hb3); clear hb3)
    | (go_at_call 13; refine (live_any b be bo bt p _ ((HA.out.ext HB1.out).ext B3.out)).mono ?_; rintro e w4 ⟨rfl, hb4⟩; rw [HC.out]; have B4 := Lib.hid (below_then B3.out hb4); clear hb4)
    | (go_at_call 29; refine (room_any b be bo bt p _ ((HA.out.ext HB1.out).ext B4.out)).mono ?_; rintro e w5 ⟨rfl, hb5⟩; have B5 := Lib.hid (below_then B4.out hb5); clear hb5))
  refine wp_name (Pr := fun W => Below w1.heap.size w1 W) B5.out ?_
  clear B0 B2 B3 B4 B5 HL2
  rintro W hW
  have HA1 := Lib.hid ((HA.out.ext HB1.out).ext hW)
  have HV1 := Lib.hid ((HV.out.ext HB1.out).ext hW)
  have HU1 := Lib.hid (HU.out.ext hW)
  have HB := Lib.hid (below_then HB1.out hW)
  clear hW HA HV HU HB1 HC
  go_wp2_with fail
  go_loopw [6] (fun z wr => ∃ i : Nat, z = .int .i64 i ∧ i ≤ N ∧ Below W.heap.size W wr) (fun z _ => N - (intOf z).toNat)
  case atStart => exact ⟨0, rfl, by omega, Below.refl _ _⟩
  case round =>
    obtain ⟨i, rfl, hi, hB⟩ := hrel
    have HBR := Lib.hid hB
    clear hB
    by_cases hlt : i < N
    · have d1 : decide ((i : Int) < (N : Int)) = true := dec_t (by omega)
      have hlt' : i < T.length := by rw [HN.out]; exact hlt
      obtain ⟨X, hX, hXr, hXt⟩ : ∃ X : Nat, T[i] = hv p (X : Int) ∧ X < p.room ∧ p.tk X = true := by
        have h := HTS.out
        subst h
        exact hand_place ok HPL.out hlt'
      obtain ⟨gu, hgu, hgl, -, hgc⟩ : ∃ g, a1 = some ⟨g, 0, none⟩ ∧ g < W.heap.size ∧ True ∧ ∀ (k : Nat) (y : Value), (T.map (Value.int .u64))[k]? = some y → W.cell? ⟨g, k, none⟩ = some y := by
        obtain ⟨a', c', e1, e2, e3, h4⟩ := HU1.out
        obtain ⟨g, q1, q2, -, q4⟩ := h4 (by omega)
        injection e1 with e1
        exact ⟨g, e1.trans q1, q2, trivial, q4⟩
      subst hgu
      have hui : W.cell? ⟨gu, i, none⟩ = some (.int .u64 (hv p (X : Int))) := hgc i _ (by rw [List.getElem?_map, List.getElem?_eq_getElem hlt', hX]; rfl)
      obtain ⟨⟨e1, e2, e3⟩, he⟩ : ∃ e, (p.ent (X : Int)).getD (0, 0, 0) = e := ⟨_, rfl⟩
      obtain ⟨gd, hgd, hdl, hdc⟩ : ∃ g, a = some ⟨g, 0, none⟩ ∧ g < W.heap.size ∧ (W.cell? ⟨g, X * 5 + 2, none⟩ = some (.int .u64 e1) ∧ W.cell? ⟨g, X * 5 + 3, none⟩ = some (.int .u64 e2) ∧ W.cell? ⟨g, X * 5 + 4, none⟩ = some (.int .u64 e3)) := by
        obtain ⟨a', c', q1, q2, q3, h4⟩ := HV1.out
        have hXl : X < (pts p).length := by rw [pts_len]; exact hXr
        obtain ⟨g, r1, r2, -, r4⟩ := h4 (by omega)
        injection q1 with q1
        have hp : (pts p)[X] = ((p.old (X : Int) : Int) + 1, (p.ent (X : Int)).isSome, e1, e2, e3) := by rw [pts_get]; unfold ptOf; rw [he]
        exact ⟨g, q1.trans r1, r2, r4 _ _ (fl5_get hXl hp (c := 2) rfl), r4 _ _ (fl5_get hXl hp (c := 3) rfl), r4 _ _ (fl5_get hXl hp (c := 4) rfl)⟩
      subst hgd
      have hur := (HBR.out.cell (p := ⟨gu, i, none⟩) hgl).trans hui
      have hii : (i : Int) < (N : Int) := by omega
      have hi0 : (0 : Int) ≤ (i : Int) := by omega
      have HAR := Lib.hid (HA1.out.ext HBR.out)
      have HVR := Lib.hid (HV1.out.ext HBR.out)
      have HRF := Lib.hid (fun Z (hZ : Below wr.heap.size wr Z) => rfind_hv p ok _ _ Z (HVR.out.ext hZ) X hXr hXt)
      rw [pts_len] at HVR
      have HGT := Lib.hid (fun Z (hZ : Below wr.heap.size wr Z) => get_hv b be bo bt p Z (HAR.out.ext hZ) ok X hXr hXt e1 e2 e3 he)
      have HPC := Lib.hid (fun Z (hZ : Below wr.heap.size wr Z) => place_hv b be bo bt p Z (HAR.out.ext hZ) ok X hXr hXt)
      have HHA := Lib.hid (fun Z (hZ : Below wr.heap.size wr Z) => handleAt_yes b be bo bt p Z (HAR.out.ext hZ) ok X hXr hXt)
      obtain ⟨h, hh⟩ : ∃ h, hv p (X : Int) = h := ⟨_, rfl⟩
      rw [hh] at HRF HGT HPC HHA hur hui
      have HUC := Lib.hid (And.intro (show W.cell? ⟨gu, i, none⟩ = some (.int .u64 h) from hui) (And.intro hdc (And.intro hgl hdl)))
      have hXi : (X : Int) < (p.room : Int) := by omega
      have hX0 : (0 : Int) ≤ (X : Int) := by omega
      have w1' := wrap_succ (show i ≤ 1000000 from Nat.le_trans (Nat.le_of_lt hlt') HTL.out)
      have HW1 := Lib.hid w1'
      clear hX hh he hui hgc hdc hgl hdl hXr hXt hlt'
      go_upto_region 8 with (go_at_call 19; refine (HRF.out _ (Below.refl _ _)).mono ?_; rintro e w6 ⟨rfl, hb6⟩; have B6 := Lib.hid hb6; clear hb6)
      have hu6 := (B6.out.cell (p := ⟨gu, i, none⟩) (Nat.lt_of_lt_of_le HUC.out.2.2.1 HBR.out.size)).trans hur
      go_upto_region 9 with (go_at_call 11; refine (HGT.out _ B6.out).mono ?_; rintro e w7 ⟨rfl, hb7⟩; have B7 := Lib.hid (below_then B6.out hb7); clear hb7)
      refine wp_name (Pr := fun V => RowAt V w7.heap.size #[.int .u64 e1, .int .u64 e2, .int .u64 e3] 32 ∧ Below wr.heap.size wr V) ⟨RowAt.new w7 _ _, below_new B7.out _⟩ ?_
      rintro V ⟨hbx, hbV⟩
      have HS := Lib.hid (fun Z (hZ : Below V.heap.size V Z) => (show (Z.cell? ⟨w7.heap.size, 0, none⟩ = some (.int .u64 e1) ∧ Z.cell? ⟨w7.heap.size, 1, none⟩ = some (.int .u64 e2) ∧ Z.cell? ⟨w7.heap.size, 2, none⟩ = some (.int .u64 e3)) ∧ Z.cell? ⟨gu, i, none⟩ = some (.int .u64 h) ∧ Z.cell? ⟨gd, X * 5 + 2, none⟩ = some (.int .u64 e1) ∧ Z.cell? ⟨gd, X * 5 + 3, none⟩ = some (.int .u64 e2) ∧ Z.cell? ⟨gd, X * 5 + 4, none⟩ = some (.int .u64 e3) from ⟨box_cells (RowAt.ext hbx hZ), by
        have hb := below_then (below_then HBR.out hbV) hZ
        exact ⟨(hb.cell (p := ⟨gu, i, none⟩) HUC.out.2.2.1).trans HUC.out.1, (hb.cell (p := ⟨gd, X * 5 + 2, none⟩) HUC.out.2.2.2).trans HUC.out.2.1.1, (hb.cell (p := ⟨gd, X * 5 + 3, none⟩) HUC.out.2.2.2).trans HUC.out.2.1.2.1, (hb.cell (p := ⟨gd, X * 5 + 4, none⟩) HUC.out.2.2.2).trans HUC.out.2.1.2.2⟩⟩))
      have B0 := Lib.hid (Below.refl V.heap.size V)
      have B1 := Lib.hid ((Below.refl V.heap.size V).drew)
      have HBV := Lib.hid hbV
      have hhh : (h == h) = true := by simp
      have hXX : ((X : Int) == (X : Int)) = true := by simp
      clear hbx hbV B6 B7 hur hu6 HUC
      go_region_held3 (fun Z => (Z.cell? ⟨w7.heap.size, 0, none⟩ = some (.int .u64 e1) ∧ Z.cell? ⟨w7.heap.size, 1, none⟩ = some (.int .u64 e2) ∧ Z.cell? ⟨w7.heap.size, 2, none⟩ = some (.int .u64 e3)) ∧ Z.cell? ⟨gu, i, none⟩ = some (.int .u64 h) ∧ Z.cell? ⟨gd, X * 5 + 2, none⟩ = some (.int .u64 e1) ∧ Z.cell? ⟨gd, X * 5 + 3, none⟩ = some (.int .u64 e2) ∧ Z.cell? ⟨gd, X * 5 + 4, none⟩ = some (.int .u64 e3))
        (first | exact HS.out _ B3.out | exact HS.out _ B2.out | exact HS.out _ B1.out | exact HS.out _ B0.out)
        (first
          | (go_at_call 12; refine (HPC.out _ (below_then HBV.out B1.out)).mono ?_; rintro e w8 ⟨rfl, hb8⟩; have B2 := Lib.hid (below_then B1.out hb8); clear hb8)
          | (go_at_call 17; refine (HHA.out _ (below_then HBV.out B2.out)).mono ?_; rintro e w9 ⟨rfl, hb9⟩; have B3 := Lib.hid (below_then B2.out hb9); clear hb9))
      dsimp only [Exit.then]
      go_at_K
      go_wp2_with fail
      go_roundw
      case measure => rw [HW1.out]; exact step_lt hlt
      case rel => exact ⟨i + 1, by rw [HW1.out]; simp, by omega, below_then HBR.out (below_then HBV.out B3.out)⟩
    · obtain rfl : i = N := by omega
      have d1 : decide ((i : Int) < (i : Int)) = false := dec_f (by omega)
      go_wp2_with fail
      go_ret
      exact ⟨rfl, below_then HB.out HBR.out⟩
end Go.Proofs.YtelnembjcgkiaaaDoor
