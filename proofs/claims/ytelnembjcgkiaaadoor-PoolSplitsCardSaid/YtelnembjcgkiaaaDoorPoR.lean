/- The law PoolSplits. -/
import Derived.Test.YtelnembjcgkiaaaDoorPoQ
namespace Go.Proofs.YtelnembjcgkiaaaDoor
open Go.RowKit
set_option linter.unusedVariables false
set_option linter.unusedSimpArgs false

theorem pred_succ {G : Nat} (h : 1 ≤ G) : ((G - 1 : Nat) : Int) + 1 = (G : Int) := by omega
theorem arith (G i : Nat) (hG : G ≤ 20) (hi : i < 40) : (0 : Int) ≤ (G : Int) * 4096 + (i : Int) ∧ (G : Int) * 4096 + (i : Int) ≤ 18446744073709551615 ∧ ((G : Int) * 4096 + (i : Int)) / 4096 = (G : Int) ∧ ((G : Int) * 4096 + (i : Int)) % 4096 = (i : Int) ∧ IntKind.u64.wrap (i : Int) = (i : Int) ∧ wrap64 ((i : Int) + 1) = (i : Int) + 1 := by
  refine ⟨by omega, by omega, by omega, by omega, ?_, ?_⟩
  · rw [IntKind.wrap_u64]; omega
  · unfold wrap64; omega
theorem meas {i R : Nat} (h : i < R) : R - (intOf (.int .i64 ((i : Int) + 1))).toNat < R - (intOf (.int .i64 (i : Int))).toNat := by
  simp only [intOf]
  omega
theorem findI_own {p : Po} {x : Nat} (hx : x < 4096) (ht : p.tk x = true) : (findI p (hv p (x : Int))).2 = true := by
  have e : hv p (x : Int) % 4096 = (x : Int) := by unfold hv; omega
  unfold findI
  dsimp only
  rw [e]
  have : (p.ent (x : Int)).isSome = true := ht
  simp [this]
set_option maxHeartbeats 8000000 in
set_option maxRecDepth 100000 in
theorem PoolSplits_walk (n r : Int) (w : World) (hT : Tab w) (_ : -9223372036854775808 ≤ n) (_ : n ≤ 9223372036854775807) (_ : -9223372036854775808 ≤ r) (_ : r ≤ 9223372036854775807) :
    Calls Tryd.prog 5 #[.int .i64 n, .int .i64 r] w fun e w' => e = .returned (.bool true) ∧ Below w.heap.size w w' := by
  obtain ⟨u, hu, u0, u1⟩ : ∃ u, IntKind.u64.wrap n = u ∧ 0 ≤ u ∧ u ≤ 18446744073709551615 := ⟨_, rfl, by rw [IntKind.wrap_u64]; omega, by rw [IntKind.wrap_u64]; omega⟩
  obtain ⟨Q, hQ, q0, q1⟩ : ∃ Q, u % 40 = Q ∧ 0 ≤ Q ∧ Q < 40 := ⟨_, rfl, by omega, by omega⟩
  obtain ⟨R, hR, R1, R2⟩ : ∃ R : Nat, 1 + Q = (R : Int) ∧ 1 ≤ R ∧ R ≤ 40 := ⟨(1 + Q).toNat, by omega, by omega, by omega⟩
  obtain ⟨v, hv', v0, v1⟩ : ∃ v, IntKind.u64.wrap r = v ∧ 0 ≤ v ∧ v ≤ 18446744073709551615 := ⟨_, rfl, by rw [IntKind.wrap_u64]; omega, by rw [IntKind.wrap_u64]; omega⟩
  obtain ⟨Z, hZ, z0, z1⟩ : ∃ Z, v % 20 = Z ∧ 0 ≤ Z ∧ Z < 20 := ⟨_, rfl, by omega, by omega⟩
  obtain ⟨K, hK, K1, K2⟩ : ∃ K : Nat, 1 + Z = (K : Int) ∧ 1 ≤ K ∧ K ≤ 20 := ⟨(1 + Z).toNat, by omega, by omega, by omega⟩
  have htb := block_lt_tab hT
  have HT := Lib.hid hT
  clear hT
  go_enter Tryd.func5, Tryd.ntmps5
  go_upto_region 3 with (go_at_call 8; refine (new_any R _ R1 (by omega)).mono ?_; rintro e w1 ⟨b, be, bo, bt, rfl, ⟨g0, g1, g2, g3⟩, hA, hB⟩)
  clear hu u0 u1 hQ q0 q1 hR
  have HC := Lib.hid (show PoB w be bo bt from ⟨htb, g1, g2, g3⟩)
  have HM0 := Lib.hid (show Pm w b be bo bt (Po.new R) w1 from ⟨hA, HT.out.ext hB, hB⟩)
  have HF0 := Lib.hid (Fu.start R1 (show R ≤ 4096 by omega))
  clear hA hB g0 g1 g2 g3 htb HT
  go_upto_region 6 with fail
  go_loopw [7] (fun gv wr => ∃ (G : Nat) (p : Po), 1 ≤ G ∧ G ≤ K + 1 ∧ gv = .int .i64 G ∧ Fu p R 0 (G - 1) ∧ Pm w b be bo bt p wr) (fun gv _ => 30 - (intOf gv).toNat)
  case atStart => exact ⟨1, _, by omega, by omega, rfl, HF0.out, HM0.out⟩
  case round =>
    clear HF0 HM0
    obtain ⟨G, p, hG1, hG2, rfl, hF, hM⟩ := hrel
    have HF0 := Lib.hid hF
    have HM0 := Lib.hid hM
    clear hF hM
    by_cases hgl : G ≤ K
    · have tg : decide ((G : Int) ≤ (K : Int)) = true := dec_t (by omega)
      have cg : IntKind.u64.wrap (G : Int) = (G : Int) := by rw [IntKind.wrap_u64]; omega
      have cg3 : wrap64 ((G : Int) + 1) = (G : Int) + 1 := by unfold wrap64; omega
      go_upto_region 9 with fail
      simp only [hZ]
      clear hv' hZ hK v0 v1 z0 z1
      go_loopw [8] (fun iv wr => ∃ (i : Nat) (p : Po), i ≤ R ∧ iv = .int .i64 i ∧ Fu p R i (G - 1) ∧ Pm w b be bo bt p wr) (fun iv _ => R - (intOf iv).toNat)
      case atStart => exact ⟨0, p, by omega, rfl, HF0.out, HM0.out⟩
      case round =>
        clear HF0 HM0
        obtain ⟨i, p, hi, rfl, hF, hM⟩ := hrel
        have HF := Lib.hid hF
        have HM := Lib.hid hM
        clear hF hM
        by_cases hlt : i < R
        · have t0 : decide ((i : Int) < (R : Int)) = true := dec_t (by omega)
          obtain ⟨l1, l2, l3⟩ := HF.out.low hlt
          have hG' : ((G - 1 : Nat) : Int) + 1 = (G : Int) := pred_succ hG1
          have hvi : hv p (i : Int) = (G : Int) * 4096 + (i : Int) := by rw [HF.out.hv hlt, hG']
          have HFP := Lib.hid (HF.out.put hlt ((G : Int), 0, (i : Int)))
          have hvp : hv (p.put i ((G : Int), 0, (i : Int))) (i : Int) = (G : Int) * 4096 + (i : Int) := by rw [HFP.out.hv hlt, hG']
          have htk : (p.put i ((G : Int), 0, (i : Int))).tk i = true := by rw [put_tk, if_pos rfl]
          have hiR : i < (p.put i ((G : Int), 0, (i : Int))).room := l1
          obtain ⟨h0, h1, s1, s2, c1, c3⟩ := arith G i (Nat.le_trans hgl K2) (Nat.lt_of_lt_of_le hlt R2)
          have hent : (p.put i ((G : Int), 0, (i : Int))).ent (i : Int) = some ((G : Int), 0, (i : Int)) := by unfold Po.put; dsimp only; rw [if_pos rfl]
          have HFI := Lib.hid (show (findI (p.put i ((G : Int), 0, (i : Int))) ((G : Int) * 4096 + (i : Int))).2 = true by rw [← hvp]; exact findI_own (Nat.lt_of_lt_of_le hlt (Nat.le_trans R2 (by decide))) htk)
          have HVI := Lib.hid hvi
          have HVP := Lib.hid hvp
          have HTK := Lib.hid htk
          have HIR := Lib.hid hiR
          have HS1 := Lib.hid s1
          have HS2 := Lib.hid s2
          have HEN := Lib.hid hent
          have HL := Lib.hid (And.intro l1 (And.intro l2 l3))
          have HH := Lib.hid (And.intro h0 h1)
          have HLT := Lib.hid hlt
          clear hG' hvi hvp htk hiR s1 s2 hent l1 l2 l3 h0 h1 hlt
          go_upto_region 14 with (first | (go_at_call 9; refine (put_free b be bo bt p _ HM.out.pat HF.out.ok HM.out.tab (G : Int) 0 (i : Int) i HL.out.1 HL.out.2.1 HL.out.2.2).mono ?_; rintro e w4 ⟨rfl, hA4, hO4⟩; rw [HVI.out]; have HM4 := Lib.hid (HM.out.pool HC.out hO4 hA4); clear hA4 hO4) | (go_at_call 15; refine (split_any ((G : Int) * 4096 + (i : Int)) _ HH.out.1 HH.out.2).mono ?_; rintro e w5 ⟨rfl, hb5⟩; rw [HS1.out, HS2.out]; have HM5 := Lib.hid (HM4.out.ext hb5); clear HM4 hb5) | (go_at_call 11; refine (get_yes b be bo bt _ _ HM5.out.pat HFP.out.ok ((G : Int) * 4096 + (i : Int)) HH.out.1 HH.out.2 HFI.out).mono ?_; rintro e w6 ⟨rfl, hb6⟩; rw [HS2.out, HEN.out]; dsimp only [Option.getD]; have HM6 := Lib.hid (HM5.out.ext hb6); clear HM5 hb6))
          refine wp_name (Pr := fun W7 => Pm w b be bo bt (p.put i ((G : Int), 0, (i : Int))) W7 ∧ RowAt W7 w6.heap.size #[.int .u64 (G : Int), .int .u64 0, .int .u64 (i : Int)] 32 ) ⟨HM6.out.ext (below_new (Below.refl _ _) _), RowAt.new w6 _ _⟩ ?_
          clear HM6
          rintro W7 ⟨hM7, hX⟩
          have HM7 := Lib.hid hM7
          obtain ⟨hkX, _⟩ := Ext.cells hX
          have se0 : ∀ y : Ext W7.heap.size W7, y.world.cell? ⟨w6.heap.size, 0, none⟩ = some (.int .u64 (G : Int)) := fun y => hkX y 0
          have se2 : ∀ y : Ext W7.heap.size W7, y.world.cell? ⟨w6.heap.size, 2, none⟩ = some (.int .u64 (i : Int)) := fun y => hkX y 2
          clear hM7 hX hkX
          refine wp_start (w := W7) ?_
          intro x
          go_wp2_with (first | (go_at_call 12; refine (place_yes b be bo bt _ _ (HM7.out.pat.ext (Ext.ok _)) HFP.out.ok ((G : Int) * 4096 + (i : Int)) HH.out.1 HH.out.2 HFI.out).mono ?_; rintro e wr' ⟨rfl, hbr⟩; rw [HS2.out]; obtain ⟨y, rfl⟩ := Ext.step _ hbr; clear hbr) | (go_at_call 17; refine (handleAt_yes b be bo bt _ _ (HM7.out.pat.ext (Ext.ok _)) HFP.out.ok i HIR.out HTK.out).mono ?_; rintro e wr' ⟨rfl, hbr⟩; rw [HVP.out]; obtain ⟨y, rfl⟩ := Ext.step _ hbr; clear hbr))
          go_roundw
          case measure => exact meas HLT.out
          case rel => exact ⟨i + 1, _, HLT.out, by simp, HFP.out, HM7.out.ext (Ext.ok _)⟩
        · obtain rfl : i = R := by omega
          have t0 : decide ((i : Int) < (i : Int)) = false := dec_f (by omega)
          have hcnt : p.cnt = i := HF.out.cnt
          have hold : ∀ y, p.old y + 1 < 1000000000 := fun y => by have := HF.out.le y; omega
          go_wp2_with (go_at_call 16; refine (clear_any b be bo bt p _ HM.out.pat HF.out.ok hold).mono ?_; rintro e w6 ⟨rfl, ⟨q, S, hA6, hG6, hP6⟩, hO6⟩; rw [hcnt]; have HM6 := Lib.hid (HM.out.pool HC.out hO6 hA6); have HF6 := Lib.hid (HF.out.gone hG6 hP6); clear hA6 hG6 hP6 hO6)
          go_roundw
          case measure => exact meas (Nat.lt_of_le_of_lt (Nat.le_trans hgl K2) (by decide))
          case rel => exact ⟨G + 1, q, Nat.le_add_left 1 G, Nat.succ_le_succ hgl, by simp, by have h := HF6.out; rw [Nat.sub_add_cancel hG1] at h; exact h, HM6.out⟩
    · obtain rfl : G = K + 1 := by omega
      have tg : decide (((K + 1 : Nat) : Int) ≤ (K : Int)) = false := dec_f (by omega)
      go_wp2_with (first | (go_at_call 14; refine (known16 _ HM0.out.tab).mono ?_; rintro e w8 ⟨rfl, hb8⟩; have HM8 := Lib.hid (HM0.out.ext hb8); clear HM0 hb8) | (go_at_call 13; refine (live_any b be bo bt p _ HM8.out.pat).mono ?_; rintro e w9 ⟨rfl, hb9⟩; rw [HF0.out.none]))
      go_ret
      exact ⟨rfl, below_then HM8.out.bel hb9⟩
end Go.Proofs.YtelnembjcgkiaaaDoor
