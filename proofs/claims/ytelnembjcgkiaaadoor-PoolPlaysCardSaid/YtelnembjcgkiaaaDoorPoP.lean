/- A pool that is filled from the least place on; the law PoolFull. -/
import Derived.Test.YtelnembjcgkiaaaDoorPoO
namespace Go.Proofs.YtelnembjcgkiaaaDoor
open Go.RowKit
set_option linter.unusedVariables false
set_option linter.unusedSimpArgs false

structure Fu (p : Po) (R i g : Nat) : Prop where
  ok : p.ok
  room : p.room = R
  tk : ∀ x, x < R → p.tk x = decide (x < i)
  old : ∀ x : Nat, x < R → p.old x = g
  le : ∀ y, p.old y ≤ g
theorem Fu.start {R : Nat} (h1 : 1 ≤ R) (h2 : R ≤ 4096) : Fu (Po.new R) R 0 0 :=
  ⟨new_ok h1 h2, rfl, fun x _ => by rw [new_tk]; simp, fun x _ => rfl, fun y => Nat.le_refl _⟩
theorem Fu.put {p : Po} {R i g : Nat} (h : Fu p R i g) (hi : i < R) (e : Int × Int × Int) : Fu (p.put i e) R (i + 1) g where
  ok := put_ok h.ok i (by rw [h.room]; exact hi) e
  room := h.room
  tk x hx := by
    rw [put_tk, h.tk x hx]
    by_cases q : x = i
    · subst q; simp
    · rw [if_neg q]
      have : (x < i) ↔ (x < i + 1) := by omega
      simp only [this]
  old x hx := h.old x hx
  le y := h.le y
theorem Fu.gone {p q : Po} {R g : Nat} {S : List Int} (h : Fu p R R g) (hG : Gone p q S) (hP : Places p S) : Fu q R 0 (g + 1) where
  ok := hG.ok
  room := hG.room.trans h.room
  tk x hx := by
    rw [hG.tk, h.tk x hx]
    have : (x : Int) ∈ S := (hP.mem x).2 (by have := h.tk x hx; unfold Po.tk at this; rw [this]; simp [hx])
    simp [this]
  old x hx := by
    have : (x : Int) ∈ S := (hP.mem x).2 (by have := h.tk x hx; unfold Po.tk at this; rw [this]; simp [hx])
    rw [hG.old, if_pos this, h.old x hx]
  le y := by
    rw [hG.old]
    have := h.le y
    split <;> omega
theorem Fu.full {p : Po} {R g : Nat} (h : Fu p R R g) : ∀ y, y < p.room → p.tk y = true := fun y hy => by
  rw [h.room] at hy
  rw [h.tk y hy]
  simp [hy]
theorem Fu.cnt {p : Po} {R g : Nat} (h : Fu p R R g) : p.cnt = R := by
  have := cntB_full p.tk p.room h.full
  unfold Po.cnt
  rw [this, h.room]
theorem Fu.none {p : Po} {R g : Nat} (h : Fu p R 0 g) : p.cnt = 0 := by
  have h0 := new_cnt R
  unfold Po.cnt at h0 ⊢
  rw [h.room]
  have h1 : (Po.new R).room = R := rfl
  rw [h1] at h0
  rw [← h0]
  exact cntB_congr _ _ R fun i hi => by rw [h.tk i hi, new_tk]; simp
theorem Fu.hv {p : Po} {R i g : Nat} (h : Fu p R i g) {x : Nat} (hx : x < R) : Go.Proofs.YtelnembjcgkiaaaDoor.hv p (x : Int) = ((g : Int) + 1) * 4096 + x := by
  unfold Go.Proofs.YtelnembjcgkiaaaDoor.hv
  rw [h.old x hx]
theorem Fu.low {p : Po} {R i g : Nat} (h : Fu p R i g) (hi : i < R) : i < p.room ∧ p.tk i = false ∧ ∀ y, y < i → p.tk y = true := by
  refine ⟨by rw [h.room]; exact hi, by rw [h.tk i hi]; simp, fun y hy => ?_⟩
  rw [h.tk y (by omega)]
  simp [hy]
structure PoB (w : World) (be bo bt : Nat) : Prop where
  tb : 0 < w.heap.size
  lo : w.heap.size ≤ be ∧ w.heap.size ≤ bo ∧ w.heap.size ≤ bt
structure Pm (w : World) (b be bo bt : Nat) (p : Po) (wr : World) : Prop where
  pat : PoAt wr b be bo bt p
  tab : Tab wr
  bel : Below w.heap.size w wr
theorem Pm.pool {w wr w' : World} {b be bo bt : Nat} {p p' : Po} (h : Pm w b be bo bt p wr) (C : PoB w be bo bt) (ho : Only (S3 be bo bt) wr w') (hp : PoAt w' b be bo bt p') : Pm w b be bo bt p' w' := by
  have c1 := C.lo
  have c3 := C.tb
  exact ⟨hp, h.tab.only ho (by unfold S3; omega), Only.below h.bel ho (fun k hk => by unfold S3 at hk; omega) h.bel.size⟩
theorem Pm.ext {w wr w' : World} {b be bo bt : Nat} {p : Po} (h : Pm w b be bo bt p wr) (hb : Below wr.heap.size wr w') : Pm w b be bo bt p w' := ⟨h.pat.ext hb, h.tab.ext hb, below_then h.bel hb⟩
set_option maxHeartbeats 8000000 in
set_option maxRecDepth 100000 in
theorem PoolFull_walk (n : Int) (w : World) (hT : Tab w) (_ : -9223372036854775808 ≤ n) (_ : n ≤ 9223372036854775807) :
    Calls Tryd.prog 4 #[.int .i64 n] w fun e w' => e = .returned (.bool true) ∧ Below w.heap.size w w' := by
  obtain ⟨u, hu, u0, u1⟩ : ∃ u, IntKind.u64.wrap n = u ∧ 0 ≤ u ∧ u ≤ 18446744073709551615 := ⟨_, rfl, by rw [IntKind.wrap_u64]; omega, by rw [IntKind.wrap_u64]; omega⟩
  obtain ⟨Q, hQ, q0, q1⟩ : ∃ Q, u % 4096 = Q ∧ 0 ≤ Q ∧ Q < 4096 := ⟨_, rfl, by omega, by omega⟩
  obtain ⟨R, hR, R1, R2⟩ : ∃ R : Nat, 1 + Q = (R : Int) ∧ 1 ≤ R ∧ R ≤ 4096 := ⟨(1 + Q).toNat, by omega, by omega, by omega⟩
  have htb := block_lt_tab hT
  have HT := Lib.hid hT
  clear hT
  go_enter Tryd.func4, Tryd.ntmps4
  go_upto_region 3 with (go_at_call 8; refine (new_any R _ R1 R2).mono ?_; rintro e w1 ⟨b, be, bo, bt, rfl, ⟨g0, g1, g2, g3⟩, hA, hB⟩)
  clear hu u0 u1 hQ q0 q1 hR
  have HC := Lib.hid (show PoB w be bo bt from ⟨htb, g1, g2, g3⟩)
  have HM0 := Lib.hid (show Pm w b be bo bt (Po.new R) w1 from ⟨hA, HT.out.ext hB, hB⟩)
  have HF0 := Lib.hid (Fu.start R1 R2)
  clear hA hB g0 g1 g2 g3 htb HT
  go_upto_region 6 with fail
  go_loopw [5] (fun iv wr => ∃ (i : Nat) (p : Po), i ≤ R ∧ iv = .int .i64 i ∧ Fu p R i 0 ∧ Pm w b be bo bt p wr) (fun iv _ => R - (intOf iv).toNat)
  case atStart => exact ⟨0, _, by omega, rfl, HF0.out, HM0.out⟩
  case round =>
    clear HF0 HM0
    obtain ⟨i, p, hi, rfl, hF, hM⟩ := hrel
    have HF := Lib.hid hF
    have HM := Lib.hid hM
    clear hF hM
    by_cases hlt : i < R
    · have t0 : decide ((i : Int) < (R : Int)) = true := dec_t (by omega)
      obtain ⟨l1, l2, l3⟩ := HF.out.low hlt
      have hvi : hv p (i : Int) = 4096 + (i : Int) := by rw [HF.out.hv hlt]; omega
      have s1 : (4096 + (i : Int)) / 4096 = 1 := by omega
      have s2 : (4096 + (i : Int)) % 4096 = (i : Int) := by omega
      have c1 : IntKind.u64.wrap (i : Int) = (i : Int) := by rw [IntKind.wrap_u64]; omega
      have c3 : wrap64 ((i : Int) + 1) = (i : Int) + 1 := by unfold wrap64; omega
      go_wp2_with (first | (go_at_call 9; refine (put_free b be bo bt p _ HM.out.pat HF.out.ok HM.out.tab (i : Int) 0 0 i l1 l2 l3).mono ?_; rintro e w4 ⟨rfl, hA4, hO4⟩; rw [hvi]) | (go_at_call 15; refine (split_any (4096 + (i : Int)) _ (by omega) (by omega)).mono ?_; rintro e w5 ⟨rfl, hb5⟩; rw [s1, s2]))
      go_roundw
      case measure => simp only [intOf]; omega
      case rel => exact ⟨i + 1, _, by omega, by simp, HF.out.put hlt _, (HM.out.pool HC.out hO4 hA4).ext hb5⟩
    · obtain rfl : i = R := by omega
      have t0 : decide ((i : Int) < (i : Int)) = false := dec_f (by omega)
      go_upto_region 13 with (go_at_call 9; refine (put_full b be bo bt p _ HM.out.pat HF.out.ok HM.out.tab 0 0 0 HF.out.full).mono ?_; rintro e w4 ⟨rfl, hb4⟩)
      have HM4 := Lib.hid (HM.out.ext hb4)
      have hcnt : p.cnt = i := HF.out.cnt
      have hold : ∀ y, p.old y + 1 < 1000000000 := fun y => by have := HF.out.le y; omega
      clear HM hb4
      go_upto_region 15 with (first | (go_at_call 13; refine (live_any b be bo bt p _ HM4.out.pat).mono ?_; rintro e w5 ⟨rfl, hb5⟩; rw [hcnt]; have HM5 := Lib.hid (HM4.out.ext hb5); clear HM4 hb5) | (go_at_call 16; refine (clear_any b be bo bt p _ HM5.out.pat HF.out.ok hold).mono ?_; rintro e w6 ⟨rfl, ⟨q, S, hA6, hG6, hP6⟩, hO6⟩; rw [hcnt]; have HM6 := Lib.hid (HM5.out.pool HC.out hO6 hA6); have HF6 := Lib.hid (HF.out.gone hG6 hP6); clear HM5 hA6 hG6 hP6 hO6) | (go_at_call 13; refine (live_any b be bo bt _ _ HM6.out.pat).mono ?_; rintro e w7 ⟨rfl, hb7⟩; rw [HF6.out.none]; have HM7 := Lib.hid (HM6.out.ext hb7); clear HM6 hb7))
      have hv0 : hv _ ((0 : Nat) : Int) = 8192 := HF6.out.hv R1
      obtain ⟨l1, l2, l3⟩ := HF6.out.low R1
      go_upto_region 16 with (go_at_call 9; refine (put_free b be bo bt _ _ HM7.out.pat HF6.out.ok HM7.out.tab 0 0 0 0 l1 l2 l3).mono ?_; rintro e w8 ⟨rfl, hA8, hO8⟩; rw [hv0])
      have HM8 := Lib.hid (HM7.out.pool HC.out hO8 hA8)
      clear HM7 hA8 hO8
      go_wp2_with (go_at_call 14; refine (known16 _ HM8.out.tab).mono ?_; rintro e w9 ⟨rfl, hb9⟩)
      go_ret
      exact ⟨rfl, below_then HM8.out.bel hb9⟩
end Go.Proofs.YtelnembjcgkiaaaDoor
