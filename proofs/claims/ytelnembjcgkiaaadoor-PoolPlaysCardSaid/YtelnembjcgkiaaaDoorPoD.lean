/- The pool: the least free place; a place is marked. -/
import Derived.Test.YtelnembjcgkiaaaDoorPoC
import Derived.Test.YtelnembjcgkiaaaDoorGrow
import Derived.WalkMore
namespace Go.Proofs.YtelnembjcgkiaaaDoor
open Go.RowKit
set_option linter.unusedVariables false
set_option linter.unusedSimpArgs false

theorem not_u64 (v : Int) (h0 : 0 ≤ v) (h1 : v ≤ 18446744073709551615) : bits .xor .u64 (if IntKind.u64.signed = true then -1 else IntKind.u64.max) v = 18446744073709551615 - v := by
  obtain ⟨m, rfl⟩ := Int.eq_ofNat_of_zero_le h0
  rw [show (if IntKind.u64.signed = true then (-1 : Int) else IntKind.u64.max) = ((18446744073709551615 : Nat) : Int) by decide]
  have hm : m < 2 ^ 64 := by omega
  rw [u64_xor _ _ (by omega) (by omega) (by omega) (by omega), Int.toNat_natCast, Int.toNat_natCast]
  have : 18446744073709551615 ^^^ m = 18446744073709551615 - m := by
    apply Nat.eq_of_testBit_eq
    intro i
    by_cases hi : i < 64
    · rw [not_bits64 m i hm hi, Nat.testBit_xor, show (18446744073709551615 : Nat) = 2 ^ 64 - 1 from rfl, Nat.testBit_two_pow_sub_one]
      simp [hi]
    · have h1 : (18446744073709551615 ^^^ m) < 2 ^ 64 := Nat.xor_lt_two_pow (by decide) hm
      have h2 : 18446744073709551615 - m < 2 ^ 64 := by omega
      rw [Nat.testBit_lt_two_pow (Nat.lt_of_lt_of_le h1 (Nat.pow_le_pow_right (by decide) (by omega))), Nat.testBit_lt_two_pow (Nat.lt_of_lt_of_le h2 (Nat.pow_le_pow_right (by decide) (by omega)))]
  rw [this]
  omega
/-- The least zero of a word. -/
theorem first_zero (v : Int) (h0 : 0 ≤ v) (h1 : v ≤ 18446744073709551615) : let f := firstI (18446744073709551615 - v) 0
    (f = -1 ∧ ∀ s, s < 64 → bitI v s = true) ∨ (0 ≤ f ∧ f < 64 ∧ bitI v f.toNat = false ∧ ∀ s : Nat, (s : Int) < f → bitI v s = true) := by
  have hb : ∀ s, s < 64 → bitI (18446744073709551615 - v) s = !bitI v s := by
    intro s hs
    have e : (18446744073709551615 - v).toNat = 18446744073709551615 - v.toNat := by omega
    rw [bitI_toNat (by omega), bitI_toNat h0, e]
    exact not_bits64 v.toNat s (by omega) hs
  by_cases hex : ∃ s, s < 64 ∧ bitI v s = false
  · right
    have hd : ∃ k, (k < 64 ∧ bitI v k = false) ∧ ∀ j, j < k → bitI v j = true := by
      obtain ⟨s, hs, hv⟩ := hex
      induction s using Nat.strongRecOn with
      | _ s ih =>
        by_cases hl : ∃ j, j < s ∧ bitI v j = false
        · obtain ⟨j, hj, hjv⟩ := hl
          exact ih j hj (by omega) hjv
        · refine ⟨s, ⟨hs, hv⟩, fun j hj => ?_⟩
          cases hq : bitI v j with
          | true => rfl
          | false => exact absurd ⟨j, hj, hq⟩ hl
    obtain ⟨k, ⟨hk, hkv⟩, hlow⟩ := hd
    have e : firstI (18446744073709551615 - v) 0 = k := scan_at _ k (by rw [hb k hk, hkv]; rfl) 64 0 (by omega) (by omega) fun j _ hj => by rw [hb j (by omega), hlow j hj]; rfl
    rw [e]
    exact ⟨by omega, by omega, by rw [Int.toNat_natCast]; exact hkv, fun s hs => hlow s (by omega)⟩
  · left
    have hall : ∀ s, s < 64 → bitI v s = true := fun s hs => by
      cases hq : bitI v s with
      | true => rfl
      | false => exact absurd ⟨s, hs, hq⟩ hex
    exact ⟨scan_none _ 64 0 fun j _ hj => by rw [hb j (by omega), hall j (by omega)]; rfl, hall⟩
set_option maxHeartbeats 8000000 in
set_option maxRecDepth 100000 in
theorem free_any (b be bo bt : Nat) (p : Po) (w : World) (hA : PoAt w b be bo bt p) (ok : p.ok) (hT : Tab w) :
    Calls Tryd.prog 30 #[.pointer (some ⟨b, 0, none⟩)] w fun e w' => ∃ f : Nat, e = .returned (.int .i64 f) ∧ (∀ y : Nat, y < f → y < p.room → p.tk y = true) ∧ (f < p.room → p.tk f = false) ∧ f ≤ 5000 ∧ Below w.heap.size w w' := by
  obtain ⟨M1, c1, M2, c2, ws, q⟩ := hA
  have hwl := q.wl
  have HW := Lib.hid q.wr
  have HWB := Lib.hid q.wb
  have r2 := ok.r2
  obtain ⟨n, hn⟩ : ∃ n, nw p.room = n := ⟨_, rfl⟩
  have hnr : p.room ≤ n * 64 := by rw [← hn]; unfold nw; omega
  have hnm : n ≤ 64 := by rw [← hn]; unfold nw; omega
  rw [hn] at hwl HWB
  have hrow := q.row
  obtain ⟨cp, hcp⟩ : ∃ cp, ws.length = cp := ⟨_, rfl⟩
  rw [hn, hcp] at hrow
  clear hcp
  obtain ⟨hkR, _⟩ := Ext.cells hrow
  have s0 : ∀ y : Ext w.heap.size w, y.world.cell? ⟨b, 2, none⟩ = some (.slice (some ⟨bt, 0, none⟩) n cp) := fun y => hkR y 2
  have s1 : ∀ y : Ext w.heap.size w, y.world.cell? ⟨b, 3, none⟩ = some (.int .i64 p.room) := fun y => hkR y 3
  have hkW : ∀ (i : Nat), i < n → ∀ y : Ext w.heap.size w, y.world.cell? ⟨bt, i, none⟩ = some (.int .u64 (ws.getD i 0)) := by
    intro i hi y
    refine (RowAt.ext q.row3 y.ok).cell (ints_get ?_)
    rw [List.getD_eq_getElem?_getD, List.getElem?_eq_getElem (by omega)]
    rfl
  have HKW := Lib.hid hkW
  have HT := Lib.hid hT
  clear q hrow hkR hkW hT
  go_enter Tryd.func30, Tryd.ntmps30
  refine wp_start (w := w) ?_
  intro x
  go_wp2_with fail
  go_step3
  go_wp2_with fail
  go_step3
  go_wp2_with fail
  go_loopw [11] (fun t wr => ∃ (i : Nat) (y : Ext w.heap.size w), i ≤ n ∧ t = .int .i64 i ∧ (∀ j, j < i * 64 → p.tk j = true) ∧ wr = y.world) (fun t _ => n - (intOf t).toNat)
  case atStart => exact ⟨0, _, by omega, rfl, fun j hj => by omega, rfl⟩
  case round =>
    obtain ⟨i, y, hi, rfl, hall, rfl⟩ := hrel
    have HALL := Lib.hid hall
    clear hall
    by_cases hlt : i < n
    · have dd : decide ((i : Int) < (n : Int)) = true := dec_t (by omega)
      have i0 : (0 : Int) ≤ (i : Int) := by omega
      have i1 : (i : Int) < (n : Int) := by omega
      have hc := HKW.out i hlt
      obtain ⟨v, hv⟩ : ∃ v, ws.getD i 0 = v := ⟨_, rfl⟩
      obtain ⟨v0, v1⟩ := HW.out i
      have hbits := HWB.out i
      rw [hv] at hc v0 v1 hbits
      have hz := first_zero v v0 v1
      obtain ⟨F, hF⟩ : ∃ F, firstI (18446744073709551615 - v) 0 = F := ⟨_, rfl⟩
      dsimp only at hz
      rw [hF] at hz
      have HZ := Lib.hid hz
      have HF := Lib.hid hF
      have HBI := Lib.hid (fun s (h1 : i < n) (h2 : s < 64) => hbits s h1 h2)
      clear hz hv hF hbits
      rcases HZ.out with ⟨rfl, hfull⟩ | ⟨f0, f1, hzero, hlow⟩
      · have HFU := Lib.hid hfull
        clear hfull HZ
        go_wp2_with (go_at_call 40; rw [not_u64 v v0 v1]; refine (first_any (18446744073709551615 - v) 0 _ (by omega) (by omega) (HT.out.ext (Ext.ok _))).mono ?_; rintro e wr ⟨rfl, hbr⟩; rw [HF.out]; obtain ⟨y, rfl⟩ := Ext.step _ hbr; clear hbr)
        go_roundw
        case measure => simp [intOf]; omega
        case rel =>
          refine ⟨i + 1, _, by omega, by go_num, fun j hj => ?_, rfl⟩
          by_cases hji : j < i * 64
          · exact HALL.out j hji
          · have := HBI.out (j - i * 64) hlt (by omega)
            rw [HFU.out _ (by omega), show i * 64 + (j - i * 64) = j by omega] at this
            exact this.symm
      · have HZE := Lib.hid hzero
        have HLO := Lib.hid hlow
        have dF : decide (F < 0) = false := dec_f (by omega)
        clear hzero hlow HZ
        go_wp2_with (go_at_call 40; rw [not_u64 v v0 v1]; refine (first_any (18446744073709551615 - v) 0 _ (by omega) (by omega) (HT.out.ext (Ext.ok _))).mono ?_; rintro e wr ⟨rfl, hbr⟩; rw [HF.out]; obtain ⟨y, rfl⟩ := Ext.step _ hbr; clear hbr)
        rw [Exit.noGoto_ret]
        go_ret
        refine ⟨i * 64 + F.toNat, ret_int (by omega), fun y hy hyr => ?_, fun hlt2 => ?_, by omega, Ext.ok _⟩
        · by_cases hji : y < i * 64
          · exact HALL.out y hji
          · have := HBI.out (y - i * 64) hlt (by omega)
            rw [HLO.out _ (by omega), show i * 64 + (y - i * 64) = y by omega] at this
            exact this.symm
        · have := HBI.out F.toNat hlt (by omega)
          rw [HZE.out] at this
          exact this.symm
    · obtain rfl : i = n := by omega
      have dd : decide ((i : Int) < (i : Int)) = false := dec_f (by omega)
      go_wp2_with fail
      rw [Exit.noGoto_ret]
      go_ret
      exact ⟨p.room, rfl, fun y hy hyr => HALL.out y (by omega), fun h => by omega, by omega, Ext.ok _⟩
theorem pow_small64 (k : Nat) (h : k < 64) : (1 : Int) ≤ 2 ^ k ∧ (2 : Int) ^ k ≤ 9223372036854775808 := by
  have h1 : (2 : Nat) ^ k ≤ 2 ^ 63 := Nat.pow_le_pow_right (by decide) (by omega)
  have h2 : 1 ≤ (2 : Nat) ^ k := Nat.one_le_two_pow
  have e : (2 : Int) ^ k = ((2 ^ k : Nat) : Int) := by simp
  rw [e]
  have h3 : (2 : Nat) ^ 63 = 9223372036854775808 := rfl
  omega
def markW (v : Int) (s : Nat) (t : Bool) : Int := if t = true then bits .or .u64 (bits .andNot .u64 v (2 ^ s)) (2 ^ s) else bits .andNot .u64 v (2 ^ s)
set_option maxHeartbeats 8000000 in
set_option maxRecDepth 100000 in
theorem mark_true (b bt n cp : Nat) (v0 v1 v3 : Value) (ws : List Int) (i s : Nat) (X : Int) (w : World) (hrow : RowAt w b #[v0, v1, .slice (some ⟨bt, 0, none⟩) n cp, v3] 69) (hws : RowAt w bt (ints .u64 ws) 23) (hl : n ≤ ws.length) (hn : n ≤ 64) (hi : i < n) (hs : s < 64) (hX : X = i * 64 + s) (hne : b ≠ bt) :
    Calls Tryd.prog 31 #[.pointer (some ⟨b, 0, none⟩), pl X, .bool true] w fun e w' => e = .returned (.tuple #[]) ∧ RowAt w' bt (ints .u64 (ws.set i (markW (ws.getD i 0) s true))) 23 ∧ But bt w w' := by
  have x0 : 0 ≤ X := by omega
  have e1 : X % 64 = (s : Int) := by omega
  have e2 : X / 64 = (i : Int) := by omega
  have e3 : X.tmod 64 = (s : Int) := by rw [Int.tmod_eq_emod_of_nonneg x0]; omega
  have e4 : X.tdiv 64 = (i : Int) := by rw [Int.tdiv_eq_ediv_of_nonneg x0]; omega
  have s0 : (0 : Int) ≤ (s : Int) := by omega
  have s1 : (s : Int) < 64 := by omega
  have i0 : (0 : Int) ≤ (i : Int) := by omega
  have i1 : (i : Int) < (n : Int) := by omega
  have ew : wrap64 (i : Int) = (i : Int) := by unfold wrap64; omega
  have HROW := Lib.hid hrow
  have HWS := Lib.hid hws
  have HL := Lib.hid hl
  clear hrow hws hl hX
  obtain ⟨v, hve⟩ : ∃ v, ws.getD i 0 = v := ⟨_, rfl⟩
  rw [hve]
  have HVE := Lib.hid hve
  clear hve
  obtain ⟨B, hB⟩ : ∃ B, IntKind.u64.wrap (2 ^ s) = B := ⟨_, rfl⟩
  have hBe : (2 : Int) ^ s = B := by
    have h1 : (1 : Int) ≤ 2 ^ s ∧ (2 : Int) ^ s ≤ 9223372036854775808 := pow_small64 s hs
    rw [← hB, IntKind.wrap_u64]
    omega
  unfold markW
  rw [hBe]
  simp only [if_true, if_false, Bool.false_eq_true]
  unfold pl
  have HBB := Lib.hid hB
  clear hB hBe
  go_enter Tryd.func31, Tryd.ntmps31
  go_upto_region 2 with fail
  rw [HBB.out]
  refine wp_name (Pr := fun W => RowAt W b #[v0, v1, .slice (some ⟨bt, 0, none⟩) n cp, v3] 69 ∧ RowAt W bt (ints .u64 ws) 23 ∧ RowAt W w.heap.size #[.int .i64 X] 71 ∧ But bt w W) ⟨HROW.out.alloc _, HWS.out.alloc _, RowAt.new w _ _, (But.refl bt w).alloc _⟩ ?_
  have hbtl := HWS.out.lt
  obtain ⟨gx, hgx⟩ : ∃ g, w.heap.size = g := ⟨_, rfl⟩
  rw [hgx] at hbtl ⊢
  clear HROW HWS hgx
  rintro W ⟨hR, hW, hX, hBut⟩
  have HBUT := Lib.hid hBut
  have HR := Lib.hid hR
  have HW := Lib.hid hW
  have HX := Lib.hid hX
  clear hR hW hX hBut
  have hv : ws[i]? = some v := by rw [← HVE.out, List.getD_eq_getElem?_getD, List.getElem?_eq_getElem (by have := HL.out; omega)]; rfl
  obtain ⟨hkR, _⟩ := Ext.cells HR.out
  obtain ⟨hkX, _⟩ := Ext.cells HX.out
  obtain ⟨hkW, hfW⟩ := Ext.cells HW.out
  have c0 : ∀ y : Ext W.heap.size W, y.world.cell? ⟨b, 2, none⟩ = some (.slice (some ⟨bt, 0, none⟩) n cp) := fun y => hkR y 2
  have c1 : ∀ y : Ext W.heap.size W, y.world.cell? ⟨gx, 0, none⟩ = some (.int .i64 X) := fun y => hkX y 0
  have c2 : ∀ y : Ext W.heap.size W, y.world.cell? ⟨bt, i, none⟩ = some (.int .u64 v) := fun y => (hkW y i).trans (ints_get hv)
  have c3 : ∀ y : Ext W.heap.size W, y.world.frozen? ⟨bt, i, none⟩ = false := fun y => hfW y i
  clear hkR hkX hkW hfW hv
  refine wp_start (w := W) ?_
  intro x
  refine wp_region_ext_tail _ 12 (by kernel_rfl) (by kernel_rfl) (by kernel_rfl) ?_
  simp only [List.take_succ_cons, List.take_zero, List.drop_succ_cons, List.drop_zero]
  repeat (go_big_quiet_step (fail))
  refine wpQuiet_nil ?_
  rintro _ ⟨y, rfl⟩
  go_upto_region 4 with fail
  have hR2 := (RowAt.ext HW.out y.ok).set i (.int .u64 (bits .andNot .u64 v B))
  rw [ints_set] at hR2
  refine wp_name (Pr := fun W => RowAt W b #[v0, v1, .slice (some ⟨bt, 0, none⟩) n cp, v3] 69 ∧ RowAt W bt (ints .u64 (ws.set i (bits .andNot .u64 v B))) 23 ∧ RowAt W gx #[.int .i64 X] 71 ∧ But bt w W) ⟨(RowAt.ext HR.out y.ok).other hne _, hR2, (RowAt.ext HX.out y.ok).other (by dsimp only; omega) _, (HBUT.out.trans (but_of y.ok bt)).set i _⟩ ?_
  clear HR HW HX HBUT c0 c1 c2 c3 hR2 x
  obtain ⟨V, hV⟩ : ∃ V, bits .andNot .u64 v B = V := ⟨_, rfl⟩
  rw [hV]
  have HV := Lib.hid hV
  clear hV y
  rintro W ⟨hR, hW, hX, hBut⟩
  have HBUT := Lib.hid hBut
  have HR := Lib.hid hR
  have HW := Lib.hid hW
  have HX := Lib.hid hX
  clear hR hW hX hBut
  have hv : (ws.set i V)[i]? = some V := by rw [List.getElem?_set_self (by have := HL.out; omega)]
  obtain ⟨hkR, _⟩ := Ext.cells HR.out
  obtain ⟨hkX, _⟩ := Ext.cells HX.out
  obtain ⟨hkW, hfW⟩ := Ext.cells HW.out
  have c0 : ∀ y : Ext W.heap.size W, y.world.cell? ⟨b, 2, none⟩ = some (.slice (some ⟨bt, 0, none⟩) n cp) := fun y => hkR y 2
  have c1 : ∀ y : Ext W.heap.size W, y.world.cell? ⟨gx, 0, none⟩ = some (.int .i64 X) := fun y => hkX y 0
  have c2 : ∀ y : Ext W.heap.size W, y.world.cell? ⟨bt, i, none⟩ = some (.int .u64 V) := fun y => (hkW y i).trans (ints_get hv)
  have c3 : ∀ y : Ext W.heap.size W, y.world.frozen? ⟨bt, i, none⟩ = false := fun y => hfW y i
  clear hkR hkX hkW hfW hv
  refine wp_start (w := W) ?_
  intro x
  refine wp_region_ext_tail _ 12 (by kernel_rfl) (by kernel_rfl) (by kernel_rfl) ?_
  simp only [List.take_succ_cons, List.take_zero, List.drop_succ_cons, List.drop_zero]
  repeat (go_big_quiet_step (fail))
  refine wpQuiet_nil ?_
  rintro _ ⟨y, rfl⟩
  go_wp2_with fail
  have hR2 := (RowAt.ext HW.out y.ok).set i (.int .u64 (bits .or .u64 V B))
  rw [ints_set] at hR2
  go_end0
  rw [List.set_set] at hR2
  exact ⟨rfl, by rw [HV.out]; exact hR2, (HBUT.out.trans (but_of y.ok bt)).set i _⟩
set_option maxHeartbeats 8000000 in
set_option maxRecDepth 100000 in
theorem mark_false (b bt n cp : Nat) (v0 v1 v3 : Value) (ws : List Int) (i s : Nat) (X : Int) (w : World) (hrow : RowAt w b #[v0, v1, .slice (some ⟨bt, 0, none⟩) n cp, v3] 69) (hws : RowAt w bt (ints .u64 ws) 23) (hl : n ≤ ws.length) (hn : n ≤ 64) (hi : i < n) (hs : s < 64) (hX : X = i * 64 + s) (hne : b ≠ bt) :
    Calls Tryd.prog 31 #[.pointer (some ⟨b, 0, none⟩), pl X, .bool false] w fun e w' => e = .returned (.tuple #[]) ∧ RowAt w' bt (ints .u64 (ws.set i (markW (ws.getD i 0) s false))) 23 ∧ But bt w w' := by
  have x0 : 0 ≤ X := by omega
  have e1 : X % 64 = (s : Int) := by omega
  have e2 : X / 64 = (i : Int) := by omega
  have e3 : X.tmod 64 = (s : Int) := by rw [Int.tmod_eq_emod_of_nonneg x0]; omega
  have e4 : X.tdiv 64 = (i : Int) := by rw [Int.tdiv_eq_ediv_of_nonneg x0]; omega
  have s0 : (0 : Int) ≤ (s : Int) := by omega
  have s1 : (s : Int) < 64 := by omega
  have i0 : (0 : Int) ≤ (i : Int) := by omega
  have i1 : (i : Int) < (n : Int) := by omega
  have ew : wrap64 (i : Int) = (i : Int) := by unfold wrap64; omega
  have HROW := Lib.hid hrow
  have HWS := Lib.hid hws
  have HL := Lib.hid hl
  clear hrow hws hl hX
  obtain ⟨v, hve⟩ : ∃ v, ws.getD i 0 = v := ⟨_, rfl⟩
  rw [hve]
  have HVE := Lib.hid hve
  clear hve
  obtain ⟨B, hB⟩ : ∃ B, IntKind.u64.wrap (2 ^ s) = B := ⟨_, rfl⟩
  have hBe : (2 : Int) ^ s = B := by
    have h1 : (1 : Int) ≤ 2 ^ s ∧ (2 : Int) ^ s ≤ 9223372036854775808 := pow_small64 s hs
    rw [← hB, IntKind.wrap_u64]
    omega
  unfold markW
  rw [hBe]
  simp only [if_true, if_false, Bool.false_eq_true]
  unfold pl
  have HBB := Lib.hid hB
  clear hB hBe
  go_enter Tryd.func31, Tryd.ntmps31
  go_upto_region 2 with fail
  rw [HBB.out]
  refine wp_name (Pr := fun W => RowAt W b #[v0, v1, .slice (some ⟨bt, 0, none⟩) n cp, v3] 69 ∧ RowAt W bt (ints .u64 ws) 23 ∧ RowAt W w.heap.size #[.int .i64 X] 71 ∧ But bt w W) ⟨HROW.out.alloc _, HWS.out.alloc _, RowAt.new w _ _, (But.refl bt w).alloc _⟩ ?_
  have hbtl := HWS.out.lt
  obtain ⟨gx, hgx⟩ : ∃ g, w.heap.size = g := ⟨_, rfl⟩
  rw [hgx] at hbtl ⊢
  clear HROW HWS hgx
  rintro W ⟨hR, hW, hX, hBut⟩
  have HBUT := Lib.hid hBut
  have HR := Lib.hid hR
  have HW := Lib.hid hW
  have HX := Lib.hid hX
  clear hR hW hX hBut
  have hv : ws[i]? = some v := by rw [← HVE.out, List.getD_eq_getElem?_getD, List.getElem?_eq_getElem (by have := HL.out; omega)]; rfl
  obtain ⟨hkR, _⟩ := Ext.cells HR.out
  obtain ⟨hkX, _⟩ := Ext.cells HX.out
  obtain ⟨hkW, hfW⟩ := Ext.cells HW.out
  have c0 : ∀ y : Ext W.heap.size W, y.world.cell? ⟨b, 2, none⟩ = some (.slice (some ⟨bt, 0, none⟩) n cp) := fun y => hkR y 2
  have c1 : ∀ y : Ext W.heap.size W, y.world.cell? ⟨gx, 0, none⟩ = some (.int .i64 X) := fun y => hkX y 0
  have c2 : ∀ y : Ext W.heap.size W, y.world.cell? ⟨bt, i, none⟩ = some (.int .u64 v) := fun y => (hkW y i).trans (ints_get hv)
  have c3 : ∀ y : Ext W.heap.size W, y.world.frozen? ⟨bt, i, none⟩ = false := fun y => hfW y i
  clear hkR hkX hkW hfW hv
  refine wp_start (w := W) ?_
  intro x
  refine wp_region_ext_tail _ 12 (by kernel_rfl) (by kernel_rfl) (by kernel_rfl) ?_
  simp only [List.take_succ_cons, List.take_zero, List.drop_succ_cons, List.drop_zero]
  repeat (go_big_quiet_step (fail))
  refine wpQuiet_nil ?_
  rintro _ ⟨y, rfl⟩
  go_wp2_with fail
  have hR2 := (RowAt.ext HW.out y.ok).set i (.int .u64 (bits .andNot .u64 v B))
  rw [ints_set] at hR2
  go_end0
  exact ⟨rfl, hR2, (HBUT.out.trans (but_of y.ok bt)).set i _⟩
end Go.Proofs.YtelnembjcgkiaaaDoor
