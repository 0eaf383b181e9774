/- The program's clock: stores, resets, copies, what is left. -/
import Derived.Test.YtdhgcmodlikckaaRtcB
import Derived.Deep.RegionWith
namespace Go.Proofs.Ytdhgcmodlikckaa
open Go.RowKit
set_option linter.unusedVariables false
set_option linter.unusedSimpArgs false

theorem and1 (v : Int) (h0 : 0 ≤ v) (h1 : v ≤ 4294967295) : bits .and .u32 v 1 = v % 2 :=
  bits_mask .u32 32 (by decide) (fun n h0 h1 => by rw [IntKind.wrap_u32]; omega) 1 (by decide) v h0 (by omega)
def St.put (s : St) (k v : Int) : St :=
  if k = 2 then { s with set := v } else if k = 3 then { s with sec := v * 4294967296 + s.set, rest := 0 } else if k = 4 then { s with alarm := s.alarm / 4294967296 * 4294967296 + v }
  else if k = 5 then { s with alarm := v * 4294967296 + s.alarm % 4294967296 } else if k = 6 then { s with en := v % 2 == 1 } else { s with ra := s.ra && v % 2 == 0 }
theorem St.put_ok (s : St) (ok : s.ok) (k v : Int) (v0 : 0 ≤ v) (v1 : v ≤ 4294967295) : (s.put k v).ok := by
  obtain ⟨s0, s1, a0, a1, r0, r1, t0, t1, d1⟩ := ok
  unfold St.put
  split
  · exact ⟨s0, s1, a0, a1, r0, r1, v0, v1, d1⟩
  split
  · exact ⟨by dsimp only; omega, by dsimp only; omega, a0, a1, by dsimp only; omega, by dsimp only; omega, t0, t1, d1⟩
  split
  · exact ⟨s0, s1, by dsimp only; omega, by dsimp only; omega, r0, r1, t0, t1, d1⟩
  split
  · exact ⟨s0, s1, by dsimp only; omega, by dsimp only; omega, r0, r1, t0, t1, d1⟩
  split
  · exact ⟨s0, s1, a0, a1, r0, r1, t0, t1, d1⟩
  · exact ⟨s0, s1, a0, a1, r0, r1, t0, t1, d1⟩
set_option maxHeartbeats 4000000 in
set_option maxRecDepth 100000 in
theorem store1_2 (b bk bv : Nat) (s : St) (ok : s.ok) (v : Int) (w : World) (v0 : 0 ≤ v) (v1 : v ≤ 4294967295) (hR : RtcAt w b s) (hk : w.cell? ⟨bk, 0, none⟩ = some (.int .i64 2)) (hv : w.cell? ⟨bv, 0, none⟩ = some (.int .u32 v)) (hkb : bk ≠ b) (hvb : bv ≠ b) :
    Calls Try.prog 42 #[.pointer (some ⟨b, 0, none⟩), .pointer (some ⟨bk, 0, none⟩), .pointer (some ⟨bv, 0, none⟩)] w fun e w' => e = .returned (.tuple #[]) ∧ RtcAt w' b (s.put 2 v) ∧ But b w w' := by
  have kk := fun x : Ext w.heap.size w => x.cell hk
  have kv := fun x : Ext w.heap.size w => x.cell hv
  have HR := Lib.hid hR
  obtain ⟨s0, s1, a0, a1, r0, r1, t0, t1, d1⟩ := ok
  have h0 : 0 ≤ s.alarm / 4294967296 := by omega
  have h1 : s.alarm / 4294967296 ≤ 4294967295 := by omega
  have l0 : 0 ≤ s.alarm % 4294967296 := by omega
  have l1 : s.alarm % 4294967296 ≤ 4294967295 := by omega
  have ha := and1 v v0 v1
  obtain ⟨c0, c1, c2, c3, c4, c5, c6, fz⟩ := hR.openX
  clear hk hv hR
  go_enter Try.func42, Try.ntmps42
  refine wp_start (w := w) ?_
  intro x
  go_wp2_with fail
  go_end0
  exact ⟨rfl, (RowAt.ext HR.out x.ok).set 3 _, ((but_of x.ok b).set 3 _)⟩
set_option maxHeartbeats 4000000 in
set_option maxRecDepth 100000 in
theorem store1_3 (b bk bv : Nat) (s : St) (ok : s.ok) (v : Int) (w : World) (v0 : 0 ≤ v) (v1 : v ≤ 4294967295) (hR : RtcAt w b s) (hk : w.cell? ⟨bk, 0, none⟩ = some (.int .i64 3)) (hv : w.cell? ⟨bv, 0, none⟩ = some (.int .u32 v)) (hkb : bk ≠ b) (hvb : bv ≠ b) :
    Calls Try.prog 42 #[.pointer (some ⟨b, 0, none⟩), .pointer (some ⟨bk, 0, none⟩), .pointer (some ⟨bv, 0, none⟩)] w fun e w' => e = .returned (.tuple #[]) ∧ RtcAt w' b (s.put 3 v) ∧ But b w w' := by
  have kk := fun x : Ext w.heap.size w => x.cell hk
  have kv := fun x : Ext w.heap.size w => x.cell hv
  have HR := Lib.hid hR
  obtain ⟨s0, s1, a0, a1, r0, r1, t0, t1, d1⟩ := ok
  have h0 : 0 ≤ s.alarm / 4294967296 := by omega
  have h1 : s.alarm / 4294967296 ≤ 4294967295 := by omega
  have l0 : 0 ≤ s.alarm % 4294967296 := by omega
  have l1 : s.alarm % 4294967296 ≤ 4294967295 := by omega
  have ha := and1 v v0 v1
  obtain ⟨c0, c1, c2, c3, c4, c5, c6, fz⟩ := hR.openX
  clear hk hv hR
  go_enter Try.func42, Try.ntmps42
  refine wp_start (w := w) ?_
  intro x
  go_wp2_with fail
  go_region_with (go_at_call 43; refine (join_any _ _ _ v0 v1 t0 t1).mono ?_; rintro e wx ⟨rfl, hbx⟩; obtain ⟨y, rfl⟩ := Ext.of (below_then (Below.drew (Ext.ok x)) hbx); clear hbx)
  all_goals (go_wp2_with fail; go_end0; exact ⟨rfl, ((RowAt.ext HR.out y.ok).set 0 _).set 2 _, ((but_of y.ok b).set 0 _).set 2 _⟩)
set_option maxHeartbeats 4000000 in
set_option maxRecDepth 100000 in
theorem store1_4 (b bk bv : Nat) (s : St) (ok : s.ok) (v : Int) (w : World) (v0 : 0 ≤ v) (v1 : v ≤ 4294967295) (hR : RtcAt w b s) (hk : w.cell? ⟨bk, 0, none⟩ = some (.int .i64 4)) (hv : w.cell? ⟨bv, 0, none⟩ = some (.int .u32 v)) (hkb : bk ≠ b) (hvb : bv ≠ b) :
    Calls Try.prog 42 #[.pointer (some ⟨b, 0, none⟩), .pointer (some ⟨bk, 0, none⟩), .pointer (some ⟨bv, 0, none⟩)] w fun e w' => e = .returned (.tuple #[]) ∧ RtcAt w' b (s.put 4 v) ∧ But b w w' := by
  have kk := fun x : Ext w.heap.size w => x.cell hk
  have kv := fun x : Ext w.heap.size w => x.cell hv
  have HR := Lib.hid hR
  obtain ⟨s0, s1, a0, a1, r0, r1, t0, t1, d1⟩ := ok
  have h0 : 0 ≤ s.alarm / 4294967296 := by omega
  have h1 : s.alarm / 4294967296 ≤ 4294967295 := by omega
  have l0 : 0 ≤ s.alarm % 4294967296 := by omega
  have l1 : s.alarm % 4294967296 ≤ 4294967295 := by omega
  have ha := and1 v v0 v1
  obtain ⟨c0, c1, c2, c3, c4, c5, c6, fz⟩ := hR.openX
  clear hk hv hR
  go_enter Try.func42, Try.ntmps42
  refine wp_start (w := w) ?_
  intro x
  go_wp2_with fail
  refine wp_region_ext_tail _ 8 (by kernel_rfl) (by kernel_rfl) (by kernel_rfl) ?_
  simp only [List.take_succ_cons, List.take_zero, List.drop_succ_cons, List.drop_zero]
  repeat (go_big_quiet_step (first | (go_at_call 44; exact Ext.call (hi_any _ _ a0 a1)) | (go_at_call 43; exact Ext.call (join_any _ _ _ h0 h1 v0 v1))))
  refine wpQuiet_nil ?_
  rintro _ ⟨y, rfl⟩
  go_wp2_with fail
  go_end0
  exact ⟨rfl, (RowAt.ext HR.out y.ok).set 1 _, (but_of y.ok b).set 1 _⟩
set_option maxHeartbeats 4000000 in
set_option maxRecDepth 100000 in
theorem store1_5 (b bk bv : Nat) (s : St) (ok : s.ok) (v : Int) (w : World) (v0 : 0 ≤ v) (v1 : v ≤ 4294967295) (hR : RtcAt w b s) (hk : w.cell? ⟨bk, 0, none⟩ = some (.int .i64 5)) (hv : w.cell? ⟨bv, 0, none⟩ = some (.int .u32 v)) (hkb : bk ≠ b) (hvb : bv ≠ b) :
    Calls Try.prog 42 #[.pointer (some ⟨b, 0, none⟩), .pointer (some ⟨bk, 0, none⟩), .pointer (some ⟨bv, 0, none⟩)] w fun e w' => e = .returned (.tuple #[]) ∧ RtcAt w' b (s.put 5 v) ∧ But b w w' := by
  have kk := fun x : Ext w.heap.size w => x.cell hk
  have kv := fun x : Ext w.heap.size w => x.cell hv
  have HR := Lib.hid hR
  obtain ⟨s0, s1, a0, a1, r0, r1, t0, t1, d1⟩ := ok
  have h0 : 0 ≤ s.alarm / 4294967296 := by omega
  have h1 : s.alarm / 4294967296 ≤ 4294967295 := by omega
  have l0 : 0 ≤ s.alarm % 4294967296 := by omega
  have l1 : s.alarm % 4294967296 ≤ 4294967295 := by omega
  have ha := and1 v v0 v1
  obtain ⟨c0, c1, c2, c3, c4, c5, c6, fz⟩ := hR.openX
  clear hk hv hR
  go_enter Try.func42, Try.ntmps42
  refine wp_start (w := w) ?_
  intro x
  go_wp2_with fail
  refine wp_region_ext_tail _ 8 (by kernel_rfl) (by kernel_rfl) (by kernel_rfl) ?_
  simp only [List.take_succ_cons, List.take_zero, List.drop_succ_cons, List.drop_zero]
  repeat (go_big_quiet_step (first | (go_at_call 45; exact Ext.call (lo_any _ _ a0 a1)) | (go_at_call 43; exact Ext.call (join_any _ _ _ v0 v1 l0 l1))))
  refine wpQuiet_nil ?_
  rintro _ ⟨y, rfl⟩
  go_wp2_with fail
  go_end0
  exact ⟨rfl, (RowAt.ext HR.out y.ok).set 1 _, (but_of y.ok b).set 1 _⟩
set_option maxHeartbeats 4000000 in
set_option maxRecDepth 100000 in
theorem store1_6 (b bk bv : Nat) (s : St) (ok : s.ok) (v : Int) (w : World) (v0 : 0 ≤ v) (v1 : v ≤ 4294967295) (hR : RtcAt w b s) (hk : w.cell? ⟨bk, 0, none⟩ = some (.int .i64 6)) (hv : w.cell? ⟨bv, 0, none⟩ = some (.int .u32 v)) (hkb : bk ≠ b) (hvb : bv ≠ b) :
    Calls Try.prog 42 #[.pointer (some ⟨b, 0, none⟩), .pointer (some ⟨bk, 0, none⟩), .pointer (some ⟨bv, 0, none⟩)] w fun e w' => e = .returned (.tuple #[]) ∧ RtcAt w' b (s.put 6 v) ∧ But b w w' := by
  have kk := fun x : Ext w.heap.size w => x.cell hk
  have kv := fun x : Ext w.heap.size w => x.cell hv
  have HR := Lib.hid hR
  obtain ⟨s0, s1, a0, a1, r0, r1, t0, t1, d1⟩ := ok
  have h0 : 0 ≤ s.alarm / 4294967296 := by omega
  have h1 : s.alarm / 4294967296 ≤ 4294967295 := by omega
  have l0 : 0 ≤ s.alarm % 4294967296 := by omega
  have l1 : s.alarm % 4294967296 ≤ 4294967295 := by omega
  have ha := and1 v v0 v1
  obtain ⟨c0, c1, c2, c3, c4, c5, c6, fz⟩ := hR.openX
  clear hk hv hR
  go_enter Try.func42, Try.ntmps42
  refine wp_start (w := w) ?_
  intro x
  go_wp2_with fail
  go_end0
  exact ⟨rfl, (RowAt.ext HR.out x.ok).set 4 _, ((but_of x.ok b).set 4 _)⟩
set_option maxHeartbeats 4000000 in
set_option maxRecDepth 100000 in
theorem store1_7 (b bk bv : Nat) (s : St) (ok : s.ok) (v : Int) (w : World) (v0 : 0 ≤ v) (v1 : v ≤ 4294967295) (hR : RtcAt w b s) (hk : w.cell? ⟨bk, 0, none⟩ = some (.int .i64 7)) (hv : w.cell? ⟨bv, 0, none⟩ = some (.int .u32 v)) (hkb : bk ≠ b) (hvb : bv ≠ b) :
    Calls Try.prog 42 #[.pointer (some ⟨b, 0, none⟩), .pointer (some ⟨bk, 0, none⟩), .pointer (some ⟨bv, 0, none⟩)] w fun e w' => e = .returned (.tuple #[]) ∧ RtcAt w' b (s.put 7 v) ∧ But b w w' := by
  have kk := fun x : Ext w.heap.size w => x.cell hk
  have kv := fun x : Ext w.heap.size w => x.cell hv
  have HR := Lib.hid hR
  obtain ⟨s0, s1, a0, a1, r0, r1, t0, t1, d1⟩ := ok
  have h0 : 0 ≤ s.alarm / 4294967296 := by omega
  have h1 : s.alarm / 4294967296 ≤ 4294967295 := by omega
  have l0 : 0 ≤ s.alarm % 4294967296 := by omega
  have l1 : s.alarm % 4294967296 ≤ 4294967295 := by omega
  have ha := and1 v v0 v1
  obtain ⟨c0, c1, c2, c3, c4, c5, c6, fz⟩ := hR.openX
  clear hk hv hR
  have hp : s.put 7 v = { s with ra := s.ra && v % 2 == 0 } := rfl
  rw [hp]
  clear hp
  rcases Bool.eq_false_or_eq_true s.ra with hra | hra
  · rw [hra] at c5 ⊢
    have hb : (true && v % 2 == 0) = (v % 2 == 0) := by simp
    rw [hb]
    clear hra hb
    go_enter Try.func42, Try.ntmps42
    refine wp_start (w := w) ?_
    intro x
    go_wp2_with fail
    go_end0
    exact ⟨rfl, (RowAt.ext HR.out x.ok).set 5 _, ((but_of x.ok b).set 5 _)⟩
  · rw [hra] at c5 ⊢
    have hb : (false && v % 2 == 0) = false := by simp
    rw [hb]
    clear hra hb
    go_enter Try.func42, Try.ntmps42
    refine wp_start (w := w) ?_
    intro x
    go_wp2_with fail
    go_end0
    exact ⟨rfl, (RowAt.ext HR.out x.ok).set 5 _, ((but_of x.ok b).set 5 _)⟩
theorem store1_any (k : Int) (k0 : 2 ≤ k) (k1 : k ≤ 7) (b bk bv : Nat) (s : St) (ok : s.ok) (v : Int) (w : World) (v0 : 0 ≤ v) (v1 : v ≤ 4294967295) (hR : RtcAt w b s) (hk : w.cell? ⟨bk, 0, none⟩ = some (.int .i64 k)) (hv : w.cell? ⟨bv, 0, none⟩ = some (.int .u32 v)) (hkb : bk ≠ b) (hvb : bv ≠ b) :
    Calls Try.prog 42 #[.pointer (some ⟨b, 0, none⟩), .pointer (some ⟨bk, 0, none⟩), .pointer (some ⟨bv, 0, none⟩)] w fun e w' => e = .returned (.tuple #[]) ∧ RtcAt w' b (s.put k v) ∧ But b w w' := by
  have hc : k = 2 ∨ k = 3 ∨ k = 4 ∨ k = 5 ∨ k = 6 ∨ k = 7 := by omega
  rcases hc with rfl | rfl | rfl | rfl | rfl | rfl
  · exact store1_2 b bk bv s ok v w v0 v1 hR hk hv hkb hvb
  · exact store1_3 b bk bv s ok v w v0 v1 hR hk hv hkb hvb
  · exact store1_4 b bk bv s ok v w v0 v1 hR hk hv hkb hvb
  · exact store1_5 b bk bv s ok v w v0 v1 hR hk hv hkb hvb
  · exact store1_6 b bk bv s ok v w v0 v1 hR hk hv hkb hvb
  · exact store1_7 b bk bv s ok v w v0 v1 hR hk hv hkb hvb
def St.store (s : St) (off v : Int) : St × Int :=
  if (placeI off).2 ≠ 0 then (s, (placeI off).2) else if (placeI off).1 ≤ 1 ∨ (placeI off).1 = 8 then (s, 12) else (s.raise (s.put (placeI off).1 v), 0)
set_option maxHeartbeats 4000000 in
set_option maxRecDepth 100000 in
theorem store_any (b : Nat) (s : St) (ok : s.ok) (off v : Int) (w : World) (o0 : 0 ≤ off) (o1 : off ≤ 4294967295) (v0 : 0 ≤ v) (v1 : v ≤ 4294967295) (hR : RtcAt w b s) :
    Calls Try.prog 13 #[.pointer (some ⟨b, 0, none⟩), .int .u32 off, .int .u32 v] w fun e w' => e = .returned (.int .i64 (s.store off v).2) ∧ RtcAt w' b (s.store off v).1 ∧ But b w w' := by
  have hlt : b < w.heap.size := RowAt.lt hR
  have HP := Lib.hid (fun w => place_any b off w o0 o1)
  have HK := Lib.hid ok
  clear ok
  rcases place_cases off with ⟨hp, hm, hl⟩ | ⟨hp, he⟩
  · rw [hp] at HP
    by_cases hro : off / 4 ≤ 1 ∨ off / 4 = 8
    · have e1 : s.store off v = (s, 12) := by rw [St.store, hp, if_neg (by simp), if_pos hro]
      rw [e1]
      clear e1 hp
      by_cases h : off / 4 ≤ 1
      · have g1 : decide (off / 4 ≤ 1) = true := decide_eq_true h
        go_enter Try.func13, Try.ntmps13
        go_wp2_with fail
        refine calls_box ?_
        intro W hB b0 hW
        refine (HP.out _).mono ?_
        rintro e w1 ⟨rfl, hb1⟩
        go_wp2_with fail
        go_ret
        exact ⟨rfl, RtcAt.ext (RtcAt.ext hR hB) (below_new hb1 _), but_of (below_then hB (below_new hb1 _)) b⟩
      · have g1 : decide (off / 4 ≤ 1) = false := decide_eq_false h
        have g2 : (off / 4 == 8) = true := by simp; omega
        go_enter Try.func13, Try.ntmps13
        go_wp2_with fail
        refine calls_box ?_
        intro W hB b0 hW
        refine (HP.out _).mono ?_
        rintro e w1 ⟨rfl, hb1⟩
        go_wp2_with fail
        go_ret
        exact ⟨rfl, RtcAt.ext (RtcAt.ext hR hB) (below_new hb1 _), but_of (below_then hB (below_new hb1 _)) b⟩
    · have e1 : s.store off v = (s.raise (s.put (off / 4) v), 0) := by rw [St.store, hp, if_neg (by simp), if_neg hro]
      rw [e1]
      clear e1 hp
      have g1 : decide (off / 4 ≤ 1) = false := by simp; omega
      have g2 : (off / 4 == 8) = false := by simp; omega
      have k0 : 2 ≤ off / 4 := by omega
      have k1 : off / 4 ≤ 7 := by omega
      clear hro
      go_enter Try.func13, Try.ntmps13
      go_wp2_with fail
      refine calls_box ?_
      intro W hB b0 hW
      refine (HP.out _).mono ?_
      rintro e w1 ⟨rfl, hb1⟩
      go_wp2_with fail
      refine calls_box ?_
      intro W2 hB2 b2 hW2
      have hR1 := RtcAt.ext (RtcAt.ext hR hB) hb1
      have hR2 := RtcAt.ext hR1 hB2
      have HB := Lib.hid (below_then hB (below_then hb1 hB2))
      have hs1 := hb1.size
      have kk : W2.cell? ⟨w1.heap.size, 0, none⟩ = some (.int .i64 (off / 4)) := cell_of_row W2 _ 0 _ _ (0, 0) b2
      have kv : W2.cell? ⟨w.heap.size, 0, none⟩ = some (.int .u32 v) := cell_of_row W2 _ 0 _ _ (0, 0) (block_below b0 (below_then hb1 hB2))
      refine (change_store b s (s.put (off / 4) v) _ _ W2 hR2 (fun w3 hb3 => store1_any (off / 4) k0 k1 b _ _ s HK.out v w3 v0 v1 (RtcAt.ext hR2 hb3) ((hb3.cell (by simp; omega)).trans kk) ((hb3.cell (by simp; omega)).trans kv) (by omega) (by omega))).mono ?_
      rintro e w4 ⟨rfl, hR4, hb4⟩
      go_wp2_with fail
      go_ret
      exact ⟨rfl, hR4, (but_of HB.out b).trans hb4⟩
  · have e1 : s.store off v = (s, (placeI off).2) := by rw [St.store, if_pos (by omega)]
    rw [e1]
    clear e1
    rw [hp] at HP
    have g1 : ((placeI off).2 != 0) = true := by simp; omega
    clear hp
    go_enter Try.func13, Try.ntmps13
    go_wp2_with fail
    refine calls_box ?_
    intro W hB b0 hW
    refine (HP.out _).mono ?_
    rintro e w1 ⟨rfl, hb1⟩
    go_wp2_with fail
    go_ret
    exact ⟨rfl, RtcAt.ext (RtcAt.ext hR hB) (below_new hb1 _), but_of (below_then hB (below_new hb1 _)) b⟩
set_option maxHeartbeats 4000000 in
set_option maxRecDepth 100000 in
theorem store_nil (off v : Int) (w : World) : Calls Try.prog 13 #[.pointer none, .int .u32 off, .int .u32 v] w fun e w' => e = .returned (.int .i64 10) ∧ Below w.heap.size w w' := by
  go_enter Try.func13, Try.ntmps13
  go_wp2_with fail
  refine calls_box ?_
  intro W hB b0 hW
  refine (place_nil off _).mono ?_
  rintro e w1 ⟨rfl, hb1⟩
  go_wp2_with fail
  go_ret
  exact ⟨rfl, below_then hB (below_new hb1 _)⟩
def St.reset (s : St) : St := { s with alarm := 0, set := 0, en := false, ra := false }
set_option maxRecDepth 100000 in
theorem neq_state (s : St) (w : World) : (binOp .neq 74 (.agg #[.int .u64 s.sec, .int .u64 s.alarm, .int .u32 s.rest, .int .u32 s.set, .bool s.en, .bool s.ra]) (.agg #[.int .u64 0, .int .u64 0, .int .u32 0, .int .u32 0, .bool false, .bool false])).run Try.prog w = .ok (.bool (!(s.sec == 0 && s.alarm == 0 && s.rest == 0 && s.set == 0 && !s.en && !s.ra))) w := by
  obtain ⟨a, b, c, d, e, f, g⟩ := s
  go_simp
  by_cases ha : a = 0 <;> by_cases hb : b = 0 <;> by_cases hc : c = 0 <;> by_cases hd : d = 0 <;> cases e <;> cases f <;> simp [ha, hb, hc, hd]
set_option maxHeartbeats 4000000 in
set_option maxRecDepth 100000 in
theorem reset_any (b : Nat) (s : St) (w : World) (hR : RtcAt w b s) :
    Calls Try.prog 24 #[.pointer (some ⟨b, 0, none⟩)] w fun e w' => e = .returned (.tuple #[]) ∧ RtcAt w' b s.reset ∧ But b w w' := by
  have hq := fun w => neq_state s w
  rcases Bool.eq_false_or_eq_true (!(s.sec == 0 && s.alarm == 0 && s.rest == 0 && s.set == 0 && !s.en && !s.ra)) with hz | hz
  · rw [hz] at hq
    clear hz
    obtain ⟨c0, c1, c2, c3, c4, c5, c6, fz⟩ := hR.openX
    have HR := Lib.hid hR
    clear hR
    go_enter Try.func24, Try.ntmps24
    refine wp_start (w := w) ?_
    intro x
    go_wp2_with (first | simp only [hq] | fail)
    refine wp_region_ext_tail _ 12 (by kernel_rfl) (by kernel_rfl) (by kernel_rfl) ?_
    simp only [List.take_succ_cons, List.take_zero, List.drop_succ_cons, List.drop_zero]
    repeat (go_big_quiet_step (fail))
    refine wpQuiet_nil ?_
    rintro _ ⟨y, rfl⟩
    go_wp2_with fail
    go_end0
    exact ⟨rfl, ((((((RowAt.ext HR.out y.ok).set 0 _).set 1 _).set 2 _).set 3 _).set 4 _).set 5 _, ((((((but_of y.ok b).set 0 _).set 1 _).set 2 _).set 3 _).set 4 _).set 5 _⟩
  · have e1 : s.reset = s := by
      obtain ⟨a, b, c, d, e, f, g⟩ := s
      simp at hz
      simp [St.reset, hz]
    rw [hz] at hq
    rw [e1]
    clear hz e1
    obtain ⟨c0, c1, c2, c3, c4, c5, c6, fz⟩ := hR.openX
    have HR := Lib.hid hR
    clear hR
    go_enter Try.func24, Try.ntmps24
    refine wp_start (w := w) ?_
    intro x
    go_wp2_with (first | simp only [hq] | fail)
    go_end0
    exact ⟨rfl, RtcAt.ext HR.out x.ok, but_of x.ok b⟩
set_option maxHeartbeats 4000000 in
set_option maxRecDepth 100000 in
theorem reset_nil (w : World) : Calls Try.prog 24 #[.pointer none] w fun e w' => e = .returned (.tuple #[]) ∧ Below w.heap.size w w' := by
  go_enter Try.func24, Try.ntmps24
  go_wp2
  go_end0
  exact ⟨rfl, Below.refl _ _⟩
set_option maxHeartbeats 4000000 in
set_option maxRecDepth 100000 in
theorem copy_any (b : Nat) (s : St) (w : World) (hR : RtcAt w b s) :
    Calls Try.prog 21 #[.pointer (some ⟨b, 0, none⟩)] w fun e w' => ∃ b', e = .returned (.pointer (some ⟨b', 0, none⟩)) ∧ w.heap.size ≤ b' ∧ RtcAt w' b' s ∧ Below w.heap.size w w' := by
  obtain ⟨c0, c1, c2, c3, c4, c5, c6, fz⟩ := hR.open
  have hlt : b < w.heap.size := RowAt.lt hR
  clear hR
  go_enter Try.func21, Try.ntmps21
  go_wp2
  go_ret
  exact ⟨w.heap.size, rfl, Nat.le_refl _, RowAt.new _ _ _, by repeat (first | exact Below.refl _ _ | refine below_set ?_ (by simp) _ | refine below_new ?_ _ | refine below_drewN ?_ _ | refine Below.drew ?_)⟩
set_option maxHeartbeats 4000000 in
set_option maxRecDepth 100000 in
theorem copy_nil (w : World) : Calls Try.prog 21 #[.pointer none] w fun e w' => e = .returned (.pointer none) ∧ Below w.heap.size w w' := by
  go_enter Try.func21, Try.ntmps21
  go_wp2
  go_ret
  exact ⟨rfl, by repeat (first | exact Below.refl _ _ | refine below_set ?_ (by simp) _ | refine below_new ?_ _ | refine below_drewN ?_ _ | refine Below.drew ?_)⟩
set_option maxHeartbeats 4000000 in
set_option maxRecDepth 100000 in
theorem new_zero (w : World) : Calls Try.prog 11 #[.int .u32 0] w fun e w' => e = .returned (.tuple #[.pointer none, .int .i64 5]) ∧ Below w.heap.size w w' := by
  go_enter Try.func11, Try.ntmps11
  go_wp2
  go_ret2
  exact ⟨rfl, Below.refl _ _⟩
set_option maxHeartbeats 4000000 in
set_option maxRecDepth 100000 in
theorem new_any (d : Int) (w : World) (d0 : 1 ≤ d) (d1 : d ≤ 4294967295) :
    Calls Try.prog 11 #[.int .u32 d] w fun e w' => ∃ b, e = .returned (.tuple #[.pointer (some ⟨b, 0, none⟩), .int .i64 0]) ∧ w.heap.size ≤ b ∧ RtcAt w' b ⟨0, 0, 0, 0, false, false, d⟩ ∧ Below w.heap.size w w' := by
  have g : (d == 0) = false := by simp; omega
  go_enter Try.func11, Try.ntmps11
  go_wp2
  go_ret2
  exact ⟨w.heap.size, rfl, Nat.le_refl _, RowAt.new _ _ _, by repeat (first | exact Below.refl _ _ | refine below_set ?_ (by simp) _ | refine below_new ?_ _ | refine below_drewN ?_ _ | refine Below.drew ?_)⟩
def St.left (s : St) : Int := if s.en = false ∨ s.alarm ≤ s.sec then 18446744073709551615 else if (s.alarm - s.sec) * s.div - s.rest ≤ 18446744073709551615 then (s.alarm - s.sec) * s.div - s.rest else 18446744073709551615
theorem left_nums (a d r : Nat) (ha : 1 ≤ a) (ha1 : a ≤ 18446744073709551615) (hd : r < d) (hd1 : d ≤ 4294967295) :
    (((a * d / 18446744073709551616 : Nat) : Int) == (if ((a * d % 18446744073709551616 : Nat) : Int) < r then 1 else 0)) = decide ((a : Int) * d - r ≤ 18446744073709551615) ∧
    ((a : Int) * d - r ≤ 18446744073709551615 → (((a * d % 18446744073709551616 : Nat) : Int) - r) % 18446744073709551616 = (a : Int) * d - r) := by
  have h1 : d ≤ a * d := Nat.le_mul_of_pos_left d ha
  have e : (a : Int) * d = ((a * d : Nat) : Int) := (Int.natCast_mul a d).symm
  rw [e]
  generalize a * d = p at *
  constructor
  · rw [Bool.eq_iff_iff]
    simp only [beq_iff_eq, decide_eq_true_eq]
    split <;> omega
  · intro h; omega
set_option maxHeartbeats 4000000 in
set_option maxRecDepth 100000 in
theorem left_any (b : Nat) (s : St) (ok : s.ok) (w : World) (hR : RtcAt w b s) : Calls Try.prog 22 #[.pointer (some ⟨b, 0, none⟩)] w fun e w' => e = .returned (.int .u64 s.left) ∧ Below w.heap.size w w' := by
  have hlt : b < w.heap.size := RowAt.lt hR
  by_cases hen : s.en = true
  · by_cases hm : s.alarm ≤ s.sec
    · have e1 : s.left = 18446744073709551615 := by rw [St.left, if_pos (.inr hm)]
      have hmb : s.metB = true := by rw [St.metB, hen, decide_eq_true hm]; rfl
      rw [e1]
      have HM := Lib.hid (fun w => met_any s w)
      rw [hmb] at HM
      have HO := Lib.hid (of_any b s w hR)
      rw [hen] at HM HO
      clear e1 hm hmb hR
      go_enter Try.func22, Try.ntmps22
      go_wp2_with fail
      refine HO.out.mono ?_
      rintro e w1 ⟨rfl, hb1⟩
      go_wp2_with fail
      refine (HM.out _).mono ?_
      rintro e w2 ⟨rfl, hb2⟩
      go_wp2_with fail
      go_ret
      exact ⟨rfl, below_then hb1 (below_then (below_new (Below.refl _ _) _) hb2)⟩
    · obtain ⟨s0, s1, a0, a1, r0, r1, t0, t1, d1⟩ := ok
      have hmb : s.metB = false := by rw [St.metB, hen, decide_eq_false hm]; rfl
      obtain ⟨A, hA⟩ := Int.eq_ofNat_of_zero_le (show 0 ≤ s.alarm - s.sec by omega)
      obtain ⟨D, hD⟩ := Int.eq_ofNat_of_zero_le (show 0 ≤ s.div by omega)
      obtain ⟨R, hRR⟩ := Int.eq_ofNat_of_zero_le r0
      obtain ⟨n1, n2⟩ := left_nums A D R (by omega) (by omega) (by omega) (by omega)
      have hmul := fun w => mul64_any A D (by omega) (by omega) w
      rw [← hA, ← hD] at hmul
      have l1 : (((A * D % 18446744073709551616 : Nat)) : Int) ≤ 18446744073709551615 := by omega
      have l0 : 0 ≤ (((A * D % 18446744073709551616 : Nat)) : Int) := by omega
      obtain ⟨H, hH⟩ : ∃ H : Int, (((A * D / 18446744073709551616 : Nat)) : Int) = H := ⟨_, rfl⟩
      obtain ⟨L, hL⟩ : ∃ L : Int, (((A * D % 18446744073709551616 : Nat)) : Int) = L := ⟨_, rfl⟩
      rw [hH, hL] at n1
      rw [hL] at n2 l0 l1
      rw [hH, hL] at hmul
      obtain ⟨V, hV⟩ : ∃ V : Int, (L - s.rest) % 18446744073709551616 = V := ⟨_, rfl⟩
      obtain ⟨B, hB0⟩ : ∃ B : Int, (if L < s.rest then 1 else 0) = B := ⟨_, rfl⟩
      have hsub := fun w => sub64_run L s.rest V B l0 r0 l1 (by omega) hV hB0 w
      rw [← hRR] at n1 n2
      rw [hB0, ← hA, ← hD] at n1
      rw [hV, ← hA, ← hD] at n2
      have HMUL := Lib.hid (fun w => (hmul w).mono fun e w' (h : _ ∧ _) => (⟨h.1, by rw [h.2]; exact Below.refl _ _⟩ : _ ∧ Below w.heap.size w w'))
      have HM := Lib.hid (fun w => met_any s w)
      rw [hmb] at HM
      have HO := Lib.hid (of_any b s w hR)
      rw [hen] at HM HO
      have hlt2 : s.sec < s.alarm := by omega
      obtain ⟨c0, c1, c2, c3, c4, c5, c6, fz⟩ := hR.openX
      have hen2 : ¬ (s.en = false ∨ s.alarm ≤ s.sec) := by rw [hen]; simp; omega
      have hres : s.left = if H == B then V else 18446744073709551615 := by
        rw [St.left, if_neg hen2, n1]
        by_cases hle : (s.alarm - s.sec) * s.div - s.rest ≤ 18446744073709551615
        · rw [if_pos hle, decide_eq_true hle, if_pos rfl, n2 hle]
        · rw [if_neg hle, decide_eq_false hle, if_neg (by simp)]
      rw [hres]
      clear n1 n2 hA hD hRR hmul hmb hR hen hm hen2 hH hL hV hB0 hres A D R
      rcases Bool.eq_false_or_eq_true (H == B) with hz | hz
      all_goals
        rw [hz]
        go_enter Try.func22, Try.ntmps22
        go_wp2_with fail
        refine HO.out.mono ?_
        rintro e w1 ⟨rfl, hb1⟩
        obtain ⟨x, rfl⟩ := Ext.of hb1
        clear hb1
        go_wp2_with fail
        refine calls_box ?_
        intro W hB b0 hW
        refine (HM.out _).mono ?_
        rintro e w2 ⟨rfl, hb2⟩
        obtain ⟨y, rfl⟩ := Ext.of (below_then (below_then x.ok hB) hb2)
        clear hb2 hB b0 hW
        go_wp2_with fail
        refine wp_region_ext _ (by kernel_rfl) (by kernel_rfl) ?_
        repeat (go_big_quiet_step ((go_at_call 55; exact Ext.call (HMUL.out _))))
        refine wpQuiet_nil ?_
        rintro _ ⟨y, rfl⟩
        go_wp2_with (first | simp only [hsub] | fail)
        go_ret
        exact ⟨rfl, Ext.ok _⟩
  · have hen' : s.en = false := by simpa using hen
    have e1 : s.left = 18446744073709551615 := by rw [St.left, if_pos (.inl hen')]
    rw [e1]
    have HO := Lib.hid (of_any b s w hR)
    rw [hen'] at HO
    clear e1 hR hen hen'
    go_enter Try.func22, Try.ntmps22
    go_wp2_with fail
    refine HO.out.mono ?_
    rintro e w1 ⟨rfl, hb1⟩
    go_wp2_with fail
    go_ret
    exact ⟨rfl, below_new hb1 _⟩
end Go.Proofs.Ytdhgcmodlikckaa
