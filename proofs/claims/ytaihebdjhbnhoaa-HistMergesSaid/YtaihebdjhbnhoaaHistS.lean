/- A histogram and sorted numbers are alike: the walk of Alike. -/
import Derived.Test.YtaihebdjhbnhoaaHistR
namespace Go.Proofs.Ytaihebdjhbnhoaa
open Go.RowKit
set_option linter.unusedVariables false
set_option linter.unusedSimpArgs false

theorem count_l (b : Nat) (L l : List Int) (w : World) (hA : HistAt w b (HsOf L)) (hL : GoodL L) (hp : L.Perm l) : Calls Try.prog 23 #[.pointer (some ⟨b, 0, none⟩)] w fun e w' => e = .returned (.int .i64 (l.length : Int)) ∧ Below w.heap.size w w' := by
  rw [← hp.length_eq]; exact count_L b L w hA hL
theorem sum_l (b : Nat) (L l : List Int) (w : World) (hA : HistAt w b (HsOf L)) (hL : GoodL L) (hp : L.Perm l) : Calls Try.prog 25 #[.pointer (some ⟨b, 0, none⟩)] w fun e w' => e = .returned (.int .u64 (sumL l)) ∧ Below w.heap.size w w' := by
  rw [← sumL_perm hL hp]; exact sum_L b L w hA hL
theorem least_l (b : Nat) (L l : List Int) (w : World) (hA : HistAt w b (HsOf L)) (hL : GoodL L) (hp : L.Perm l) : Calls Try.prog 17 #[.pointer (some ⟨b, 0, none⟩)] w fun e w' => e = .returned (.tuple #[.int .u64 (minL L), .bool (decide (0 < (l.length : Int)))]) ∧ Below w.heap.size w w' := by
  rw [← hp.length_eq]; exact least_L b L w hA hL
theorem most_l (b : Nat) (L l : List Int) (w : World) (hA : HistAt w b (HsOf L)) (hL : GoodL L) (hp : L.Perm l) : Calls Try.prog 18 #[.pointer (some ⟨b, 0, none⟩)] w fun e w' => e = .returned (.tuple #[.int .u64 (maxL L), .bool (decide (0 < (l.length : Int)))]) ∧ Below w.heap.size w w' := by
  rw [← hp.length_eq]; exact most_L b L w hA hL
theorem bucket_l (b : Nat) (L l : List Int) (w : World) (hA : HistAt w b (HsOf L)) (hL : GoodL L) (hp : L.Perm l) (k : Int) (k0 : -9223372036854775808 ≤ k) (k1 : k ≤ 9223372036854775807) : Calls Try.prog 24 #[.pointer (some ⟨b, 0, none⟩), .int .i64 k] w fun e w' => e = .returned (.int .i64 (rcount l k)) ∧ Below w.heap.size w w' := by
  rw [← bucket_rcount hL hp k]; exact bucket_L b L k w hA k0 k1
set_option maxHeartbeats 32000000 in
set_option maxRecDepth 100000 in
theorem alike_any (b : Nat) (L l : List Int) (v : Value) (p : Int) (w : World) (ok : Nat → Prop) (hA : HistAt w b (HsOf L)) (hv : Lst .u64 w v l ok) (hL : GoodL L) (hp : L.Perm l) (hs : l.Pairwise (· ≤ ·)) (hl : l.length ≤ 1000000) (p0 : -9223372036854775808 ≤ p) (p1 : p ≤ 9223372036854775807) :
    Calls Try.prog 20 #[.pointer (some ⟨b, 0, none⟩), v, .int .i64 p] w fun e w' => e = .returned (.bool true) ∧ Below w.heap.size w w' := by
  have HV := Lib.hid hv
  have HA := Lib.hid hA
  have HL := Lib.hid hL
  have HP := Lib.hid hp
  have HS := Lib.hid hs
  have HLl := Lib.hid (hL.perm hp)
  have HLN : Hid (L.length ≤ 1000000) := by rw [hp.length_eq]; exact hl
  obtain ⟨a, cap, rfl, hc1, hc2, hcell⟩ := hv
  unfold maxLen at hc2
  have l0 : (l.length : Int) ≤ 1000000 := by omega
  have HC := Lib.hid hcell
  by_cases hn : l.length = 0
  · have eL : L = [] := List.eq_nil_of_length_eq_zero (by rw [hp.length_eq]; exact hn)
    have m0 : minL L = 0 := by rw [eL]; rfl
    have m1 : maxL L = 0 := by rw [eL]; rfl
    have z0 : decide (0 < (l.length : Int)) = false := dec_f (by omega)
    have z1 : decide (0 < l.length) = false := dec_f (by omega)
    clear eL hcell hA hL hp hs hn
    go_enter Try.func20, Try.ntmps20
    refine wp_start (w := w) ?_
    intro x
    go_wp2_with (first | (go_at_call 23; refine (count_l b L l _ (HistAt.ext HA.out (Ext.ok _)) HL.out HP.out).mono ?_; rintro e wr ⟨rfl, hbr⟩; obtain ⟨y, rfl⟩ := Ext.step _ hbr; clear hbr) | (go_at_call 25; refine (sum_l b L l _ (HistAt.ext HA.out (Ext.ok _)) HL.out HP.out).mono ?_; rintro e wr ⟨rfl, hbr⟩; obtain ⟨y, rfl⟩ := Ext.step _ hbr; clear hbr) | (go_at_call 17; refine (least_l b L l _ (HistAt.ext HA.out (Ext.ok _)) HL.out HP.out).mono ?_; rintro e wr ⟨rfl, hbr⟩; obtain ⟨y, rfl⟩ := Ext.step _ hbr; clear hbr) | (go_at_call 18; refine (most_l b L l _ (HistAt.ext HA.out (Ext.ok _)) HL.out HP.out).mono ?_; rintro e wr ⟨rfl, hbr⟩; obtain ⟨y, rfl⟩ := Ext.step _ hbr; clear hbr) | (go_at_call 24; refine (bucket_l b L l _ (HistAt.ext HA.out (Ext.ok _)) HL.out HP.out _ (by omega) (by omega)).mono ?_; rintro e wr ⟨rfl, hbr⟩; obtain ⟨y, rfl⟩ := Ext.step _ hbr; clear hbr) | (go_at_call 16; refine (part_L b L _ _ (HistAt.ext HA.out (Ext.ok _)) HL.out HLN.out).mono ?_; rintro e wr ⟨rfl, hbr⟩; obtain ⟨y, rfl⟩ := Ext.step _ hbr; clear hbr) | (go_at_call 48; refine (rSum_any _ l _ ok (HV.out.ext (Ext.ok _)) hl HLl.out).mono ?_; rintro e w' ⟨rfl, rfl⟩) | (go_at_call 50; refine (rPart_any _ L l _ _ ok (HV.out.ext (Ext.ok _)) hl HL.out HP.out HS.out p0 p1).mono ?_; rintro e w' ⟨rfl, rfl⟩))
    go_loopw [11] (fun i wr => ∃ k : Int, -1 ≤ k ∧ k ≤ 67 ∧ i = .int .i64 k ∧ ∃ y : Ext w.heap.size w, wr = y.world) (fun i _ => (67 - intOf i).toNat)
    case atStart => exact ⟨-1, by omega, by omega, rfl, _, rfl⟩
    case round =>
      obtain ⟨k, k0, k1, rfl, y, rfl⟩ := hrel
      by_cases hlt : k < 67
      · have g1 : decide (k < 67) = true := dec_t hlt
        go_wp2_with fail
        go_hide HQ
        go_loop [12, 13] (fun n i => ∃ j : Nat, j ≤ l.length ∧ i = .int .i64 j ∧ n = .int .i64 (rcount (l.take j) k)) (fun _ i => l.length - (intOf i).toNat)
        case atStart => exact ⟨0, by omega, rfl, rfl⟩
        case round =>
          obtain ⟨j, hj, rfl, rfl⟩ := hrel
          by_cases hjl : j < l.length
          · obtain ⟨q, hqa, hq, _, hcl⟩ := HC.out (by omega)
            cases hqa
            have c0 := (y.ok.cell (p := q.add j) (by rw [addr_add_block]; exact hq)).trans (hcl j hjl)
            obtain ⟨x0, x1⟩ := HLl.out.get j hjl
            have e1 := rcount_snoc (l.take j) l[j] k
            rw [← take_snoc_get l j hjl] at e1
            have hrc := rcount_in (l.take j) k
            have r0 : 0 ≤ rcount (l.take j) k := hrc.1
            have r1 : rcount (l.take j) k ≤ 1000000 := by have := hrc.2; simp at this; omega
            clear hcl hq hrc
            by_cases hb : (Lib.bitLen l[j].toNat : Int) = k
            · have HE : Hid (rcount (l.take (j + 1)) k = rcount (l.take j) k + 1) := by rw [if_pos hb] at e1; exact e1
              have g3 : ((Lib.bitLen l[j].toNat : Int) == k) = true := beq_t hb
              clear e1 hb
              go_wp2_with (go_at_call 49; refine (rOf_any _ _ x0 x1).mono ?_; rintro e w' ⟨rfl, rfl⟩)
              go_round
              case measure => simp [intOf]; omega
              case rel => exact ⟨j + 1, by omega, by simp, by rw [HE.out]⟩
            · have HE : Hid (rcount (l.take (j + 1)) k = rcount (l.take j) k) := by rw [if_neg hb] at e1; show _ = _; omega
              have g3 : ((Lib.bitLen l[j].toNat : Int) == k) = false := beq_f hb
              clear e1 hb
              go_wp2_with (go_at_call 49; refine (rOf_any _ _ x0 x1).mono ?_; rintro e w' ⟨rfl, rfl⟩)
              go_round
              case measure => simp [intOf]; omega
              case rel => exact ⟨j + 1, by omega, by simp, by rw [HE.out]⟩
          · obtain rfl : j = l.length := by omega
            rw [List.take_length]
            subst HQ
            go_wp2_with (first | (go_at_call 23; refine (count_l b L l _ (HistAt.ext HA.out (Ext.ok _)) HL.out HP.out).mono ?_; rintro e wr ⟨rfl, hbr⟩; obtain ⟨y, rfl⟩ := Ext.step _ hbr; clear hbr) | (go_at_call 25; refine (sum_l b L l _ (HistAt.ext HA.out (Ext.ok _)) HL.out HP.out).mono ?_; rintro e wr ⟨rfl, hbr⟩; obtain ⟨y, rfl⟩ := Ext.step _ hbr; clear hbr) | (go_at_call 17; refine (least_l b L l _ (HistAt.ext HA.out (Ext.ok _)) HL.out HP.out).mono ?_; rintro e wr ⟨rfl, hbr⟩; obtain ⟨y, rfl⟩ := Ext.step _ hbr; clear hbr) | (go_at_call 18; refine (most_l b L l _ (HistAt.ext HA.out (Ext.ok _)) HL.out HP.out).mono ?_; rintro e wr ⟨rfl, hbr⟩; obtain ⟨y, rfl⟩ := Ext.step _ hbr; clear hbr) | (go_at_call 24; refine (bucket_l b L l _ (HistAt.ext HA.out (Ext.ok _)) HL.out HP.out _ (by omega) (by omega)).mono ?_; rintro e wr ⟨rfl, hbr⟩; obtain ⟨y, rfl⟩ := Ext.step _ hbr; clear hbr) | (go_at_call 16; refine (part_L b L _ _ (HistAt.ext HA.out (Ext.ok _)) HL.out HLN.out).mono ?_; rintro e wr ⟨rfl, hbr⟩; obtain ⟨y, rfl⟩ := Ext.step _ hbr; clear hbr) | (go_at_call 48; refine (rSum_any _ l _ ok (HV.out.ext (Ext.ok _)) hl HLl.out).mono ?_; rintro e w' ⟨rfl, rfl⟩) | (go_at_call 50; refine (rPart_any _ L l _ _ ok (HV.out.ext (Ext.ok _)) hl HL.out HP.out HS.out p0 p1).mono ?_; rintro e w' ⟨rfl, rfl⟩))
            go_roundw
            case measure => simp [intOf]; omega
            case rel => exact ⟨k + 1, by omega, by omega, rfl, _, rfl⟩
      · have g1 : decide (k < 67) = false := dec_f hlt
        go_wp2_with (first | (go_at_call 23; refine (count_l b L l _ (HistAt.ext HA.out (Ext.ok _)) HL.out HP.out).mono ?_; rintro e wr ⟨rfl, hbr⟩; obtain ⟨y, rfl⟩ := Ext.step _ hbr; clear hbr) | (go_at_call 25; refine (sum_l b L l _ (HistAt.ext HA.out (Ext.ok _)) HL.out HP.out).mono ?_; rintro e wr ⟨rfl, hbr⟩; obtain ⟨y, rfl⟩ := Ext.step _ hbr; clear hbr) | (go_at_call 17; refine (least_l b L l _ (HistAt.ext HA.out (Ext.ok _)) HL.out HP.out).mono ?_; rintro e wr ⟨rfl, hbr⟩; obtain ⟨y, rfl⟩ := Ext.step _ hbr; clear hbr) | (go_at_call 18; refine (most_l b L l _ (HistAt.ext HA.out (Ext.ok _)) HL.out HP.out).mono ?_; rintro e wr ⟨rfl, hbr⟩; obtain ⟨y, rfl⟩ := Ext.step _ hbr; clear hbr) | (go_at_call 24; refine (bucket_l b L l _ (HistAt.ext HA.out (Ext.ok _)) HL.out HP.out _ (by omega) (by omega)).mono ?_; rintro e wr ⟨rfl, hbr⟩; obtain ⟨y, rfl⟩ := Ext.step _ hbr; clear hbr) | (go_at_call 16; refine (part_L b L _ _ (HistAt.ext HA.out (Ext.ok _)) HL.out HLN.out).mono ?_; rintro e wr ⟨rfl, hbr⟩; obtain ⟨y, rfl⟩ := Ext.step _ hbr; clear hbr) | (go_at_call 48; refine (rSum_any _ l _ ok (HV.out.ext (Ext.ok _)) hl HLl.out).mono ?_; rintro e w' ⟨rfl, rfl⟩) | (go_at_call 50; refine (rPart_any _ L l _ _ ok (HV.out.ext (Ext.ok _)) hl HL.out HP.out HS.out p0 p1).mono ?_; rintro e w' ⟨rfl, rfl⟩))
        go_ret
        exact ⟨rfl, Ext.ok _⟩
    
  · obtain ⟨q0, rfl, hq, _, hcl⟩ := hcell (by omega)
    have hn0 : 0 < l.length := by omega
    have m0 := minL_sorted hp hs hn0
    have m1 := maxL_sorted hp hs hn0
    have z0 : decide (0 < (l.length : Int)) = true := dec_t (by omega)
    have z1 : decide (0 < l.length) = true := dec_t (by omega)
    have n1 : (1 : Int) ≤ l.length := by omega
    have cf : ∀ x : Ext w.heap.size w, x.world.cell? (q0.add 0) = some (.int .u64 l[0]) := fun x => (x.ok.cell (p := q0.add 0) (by rw [addr_add_block]; exact hq)).trans (hcl 0 hn0)
    have cl : ∀ x : Ext w.heap.size w, x.world.cell? (q0.add (l.length - 1)) = some (.int .u64 l[l.length - 1]) := fun x => (x.ok.cell (p := q0.add (l.length - 1)) (by rw [addr_add_block]; exact hq)).trans (hcl (l.length - 1) (by omega))
    have ea : q0.add 0 = q0 := rfl
    rw [ea] at cf
    clear hcell hA hL hp hs hn ea hcl hq
    go_enter Try.func20, Try.ntmps20
    refine wp_start (w := w) ?_
    intro x
    go_wp2_with (first | (go_at_call 23; refine (count_l b L l _ (HistAt.ext HA.out (Ext.ok _)) HL.out HP.out).mono ?_; rintro e wr ⟨rfl, hbr⟩; obtain ⟨y, rfl⟩ := Ext.step _ hbr; clear hbr) | (go_at_call 25; refine (sum_l b L l _ (HistAt.ext HA.out (Ext.ok _)) HL.out HP.out).mono ?_; rintro e wr ⟨rfl, hbr⟩; obtain ⟨y, rfl⟩ := Ext.step _ hbr; clear hbr) | (go_at_call 17; refine (least_l b L l _ (HistAt.ext HA.out (Ext.ok _)) HL.out HP.out).mono ?_; rintro e wr ⟨rfl, hbr⟩; obtain ⟨y, rfl⟩ := Ext.step _ hbr; clear hbr) | (go_at_call 18; refine (most_l b L l _ (HistAt.ext HA.out (Ext.ok _)) HL.out HP.out).mono ?_; rintro e wr ⟨rfl, hbr⟩; obtain ⟨y, rfl⟩ := Ext.step _ hbr; clear hbr) | (go_at_call 24; refine (bucket_l b L l _ (HistAt.ext HA.out (Ext.ok _)) HL.out HP.out _ (by omega) (by omega)).mono ?_; rintro e wr ⟨rfl, hbr⟩; obtain ⟨y, rfl⟩ := Ext.step _ hbr; clear hbr) | (go_at_call 16; refine (part_L b L _ _ (HistAt.ext HA.out (Ext.ok _)) HL.out HLN.out).mono ?_; rintro e wr ⟨rfl, hbr⟩; obtain ⟨y, rfl⟩ := Ext.step _ hbr; clear hbr) | (go_at_call 48; refine (rSum_any _ l _ ok (HV.out.ext (Ext.ok _)) hl HLl.out).mono ?_; rintro e w' ⟨rfl, rfl⟩) | (go_at_call 50; refine (rPart_any _ L l _ _ ok (HV.out.ext (Ext.ok _)) hl HL.out HP.out HS.out p0 p1).mono ?_; rintro e w' ⟨rfl, rfl⟩))
    go_loopw [11] (fun i wr => ∃ k : Int, -1 ≤ k ∧ k ≤ 67 ∧ i = .int .i64 k ∧ ∃ y : Ext w.heap.size w, wr = y.world) (fun i _ => (67 - intOf i).toNat)
    case atStart => exact ⟨-1, by omega, by omega, rfl, _, rfl⟩
    case round =>
      obtain ⟨k, k0, k1, rfl, y, rfl⟩ := hrel
      by_cases hlt : k < 67
      · have g1 : decide (k < 67) = true := dec_t hlt
        go_wp2_with fail
        go_hide HQ
        go_loop [12, 13] (fun n i => ∃ j : Nat, j ≤ l.length ∧ i = .int .i64 j ∧ n = .int .i64 (rcount (l.take j) k)) (fun _ i => l.length - (intOf i).toNat)
        case atStart => exact ⟨0, by omega, rfl, rfl⟩
        case round =>
          obtain ⟨j, hj, rfl, rfl⟩ := hrel
          by_cases hjl : j < l.length
          · obtain ⟨q, hqa, hq, _, hcl⟩ := HC.out (by omega)
            cases hqa
            have c0 := (y.ok.cell (p := q0.add j) (by rw [addr_add_block]; exact hq)).trans (hcl j hjl)
            obtain ⟨x0, x1⟩ := HLl.out.get j hjl
            have e1 := rcount_snoc (l.take j) l[j] k
            rw [← take_snoc_get l j hjl] at e1
            have hrc := rcount_in (l.take j) k
            have r0 : 0 ≤ rcount (l.take j) k := hrc.1
            have r1 : rcount (l.take j) k ≤ 1000000 := by have := hrc.2; simp at this; omega
            clear hcl hq hrc
            by_cases hb : (Lib.bitLen l[j].toNat : Int) = k
            · have HE : Hid (rcount (l.take (j + 1)) k = rcount (l.take j) k + 1) := by rw [if_pos hb] at e1; exact e1
              have g3 : ((Lib.bitLen l[j].toNat : Int) == k) = true := beq_t hb
              clear e1 hb
              go_wp2_with (go_at_call 49; refine (rOf_any _ _ x0 x1).mono ?_; rintro e w' ⟨rfl, rfl⟩)
              go_round
              case measure => simp [intOf]; omega
              case rel => exact ⟨j + 1, by omega, by simp, by rw [HE.out]⟩
            · have HE : Hid (rcount (l.take (j + 1)) k = rcount (l.take j) k) := by rw [if_neg hb] at e1; show _ = _; omega
              have g3 : ((Lib.bitLen l[j].toNat : Int) == k) = false := beq_f hb
              clear e1 hb
              go_wp2_with (go_at_call 49; refine (rOf_any _ _ x0 x1).mono ?_; rintro e w' ⟨rfl, rfl⟩)
              go_round
              case measure => simp [intOf]; omega
              case rel => exact ⟨j + 1, by omega, by simp, by rw [HE.out]⟩
          · obtain rfl : j = l.length := by omega
            rw [List.take_length]
            subst HQ
            go_wp2_with (first | (go_at_call 23; refine (count_l b L l _ (HistAt.ext HA.out (Ext.ok _)) HL.out HP.out).mono ?_; rintro e wr ⟨rfl, hbr⟩; obtain ⟨y, rfl⟩ := Ext.step _ hbr; clear hbr) | (go_at_call 25; refine (sum_l b L l _ (HistAt.ext HA.out (Ext.ok _)) HL.out HP.out).mono ?_; rintro e wr ⟨rfl, hbr⟩; obtain ⟨y, rfl⟩ := Ext.step _ hbr; clear hbr) | (go_at_call 17; refine (least_l b L l _ (HistAt.ext HA.out (Ext.ok _)) HL.out HP.out).mono ?_; rintro e wr ⟨rfl, hbr⟩; obtain ⟨y, rfl⟩ := Ext.step _ hbr; clear hbr) | (go_at_call 18; refine (most_l b L l _ (HistAt.ext HA.out (Ext.ok _)) HL.out HP.out).mono ?_; rintro e wr ⟨rfl, hbr⟩; obtain ⟨y, rfl⟩ := Ext.step _ hbr; clear hbr) | (go_at_call 24; refine (bucket_l b L l _ (HistAt.ext HA.out (Ext.ok _)) HL.out HP.out _ (by omega) (by omega)).mono ?_; rintro e wr ⟨rfl, hbr⟩; obtain ⟨y, rfl⟩ := Ext.step _ hbr; clear hbr) | (go_at_call 16; refine (part_L b L _ _ (HistAt.ext HA.out (Ext.ok _)) HL.out HLN.out).mono ?_; rintro e wr ⟨rfl, hbr⟩; obtain ⟨y, rfl⟩ := Ext.step _ hbr; clear hbr) | (go_at_call 48; refine (rSum_any _ l _ ok (HV.out.ext (Ext.ok _)) hl HLl.out).mono ?_; rintro e w' ⟨rfl, rfl⟩) | (go_at_call 50; refine (rPart_any _ L l _ _ ok (HV.out.ext (Ext.ok _)) hl HL.out HP.out HS.out p0 p1).mono ?_; rintro e w' ⟨rfl, rfl⟩))
            go_roundw
            case measure => simp [intOf]; omega
            case rel => exact ⟨k + 1, by omega, by omega, rfl, _, rfl⟩
      · have g1 : decide (k < 67) = false := dec_f hlt
        go_wp2_with (first | (go_at_call 23; refine (count_l b L l _ (HistAt.ext HA.out (Ext.ok _)) HL.out HP.out).mono ?_; rintro e wr ⟨rfl, hbr⟩; obtain ⟨y, rfl⟩ := Ext.step _ hbr; clear hbr) | (go_at_call 25; refine (sum_l b L l _ (HistAt.ext HA.out (Ext.ok _)) HL.out HP.out).mono ?_; rintro e wr ⟨rfl, hbr⟩; obtain ⟨y, rfl⟩ := Ext.step _ hbr; clear hbr) | (go_at_call 17; refine (least_l b L l _ (HistAt.ext HA.out (Ext.ok _)) HL.out HP.out).mono ?_; rintro e wr ⟨rfl, hbr⟩; obtain ⟨y, rfl⟩ := Ext.step _ hbr; clear hbr) | (go_at_call 18; refine (most_l b L l _ (HistAt.ext HA.out (Ext.ok _)) HL.out HP.out).mono ?_; rintro e wr ⟨rfl, hbr⟩; obtain ⟨y, rfl⟩ := Ext.step _ hbr; clear hbr) | (go_at_call 24; refine (bucket_l b L l _ (HistAt.ext HA.out (Ext.ok _)) HL.out HP.out _ (by omega) (by omega)).mono ?_; rintro e wr ⟨rfl, hbr⟩; obtain ⟨y, rfl⟩ := Ext.step _ hbr; clear hbr) | (go_at_call 16; refine (part_L b L _ _ (HistAt.ext HA.out (Ext.ok _)) HL.out HLN.out).mono ?_; rintro e wr ⟨rfl, hbr⟩; obtain ⟨y, rfl⟩ := Ext.step _ hbr; clear hbr) | (go_at_call 48; refine (rSum_any _ l _ ok (HV.out.ext (Ext.ok _)) hl HLl.out).mono ?_; rintro e w' ⟨rfl, rfl⟩) | (go_at_call 50; refine (rPart_any _ L l _ _ ok (HV.out.ext (Ext.ok _)) hl HL.out HP.out HS.out p0 p1).mono ?_; rintro e w' ⟨rfl, rfl⟩))
        go_ret
        exact ⟨rfl, Ext.ok _⟩
    
end Go.Proofs.Ytaihebdjhbnhoaa
