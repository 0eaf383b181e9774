/- The program's clock: what each call comes to. -/
import Derived.Test.YtdhgcmodlikckaaWords4
import Derived.Test.YtdhgcmodlikckaaBut
namespace Go.Proofs.Ytdhgcmodlikckaa
open Go.RowKit
set_option linter.unusedVariables false
set_option linter.unusedSimpArgs false

structure St where
  sec : Int
  alarm : Int
  rest : Int
  set : Int
  en : Bool
  ra : Bool
  div : Int
structure St.ok (s : St) : Prop where
  s0 : 0 ≤ s.sec
  s1 : s.sec ≤ 18446744073709551615
  a0 : 0 ≤ s.alarm
  a1 : s.alarm ≤ 18446744073709551615
  r0 : 0 ≤ s.rest
  r1 : s.rest < s.div
  t0 : 0 ≤ s.set
  t1 : s.set ≤ 4294967295
  d1 : s.div ≤ 4294967295
def St.val (s : St) : Value := .agg #[.int .u64 s.sec, .int .u64 s.alarm, .int .u32 s.rest, .int .u32 s.set, .bool s.en, .bool s.ra]
def St.cells (s : St) : Array Value := #[.int .u64 s.sec, .int .u64 s.alarm, .int .u32 s.rest, .int .u32 s.set, .bool s.en, .bool s.ra, .int .u32 s.div]
def RtcAt (W : World) (b : Nat) (s : St) : Prop := RowAt W b s.cells 76
structure Rtc7 (W : World) (b : Nat) (s : St) : Prop where
  c0 : W.cell? ⟨b, 0, none⟩ = some (.int .u64 s.sec)
  c1 : W.cell? ⟨b, 1, none⟩ = some (.int .u64 s.alarm)
  c2 : W.cell? ⟨b, 2, none⟩ = some (.int .u32 s.rest)
  c3 : W.cell? ⟨b, 3, none⟩ = some (.int .u32 s.set)
  c4 : W.cell? ⟨b, 4, none⟩ = some (.bool s.en)
  c5 : W.cell? ⟨b, 5, none⟩ = some (.bool s.ra)
  c6 : W.cell? ⟨b, 6, none⟩ = some (.int .u32 s.div)
  fz : ∀ i, W.frozen? ⟨b, i, none⟩ = false
theorem RtcAt.open {W : World} {b : Nat} {s : St} (h : RtcAt W b s) : Rtc7 W b s :=
  ⟨h.cell rfl, h.cell rfl, h.cell rfl, h.cell rfl, h.cell rfl, h.cell rfl, h.cell rfl, h.frozen⟩
structure Rtc7X (W : World) (b : Nat) (s : St) : Prop where
  c0 : ∀ x : Ext W.heap.size W, x.world.cell? ⟨b, 0, none⟩ = some (.int .u64 s.sec)
  c1 : ∀ x : Ext W.heap.size W, x.world.cell? ⟨b, 1, none⟩ = some (.int .u64 s.alarm)
  c2 : ∀ x : Ext W.heap.size W, x.world.cell? ⟨b, 2, none⟩ = some (.int .u32 s.rest)
  c3 : ∀ x : Ext W.heap.size W, x.world.cell? ⟨b, 3, none⟩ = some (.int .u32 s.set)
  c4 : ∀ x : Ext W.heap.size W, x.world.cell? ⟨b, 4, none⟩ = some (.bool s.en)
  c5 : ∀ x : Ext W.heap.size W, x.world.cell? ⟨b, 5, none⟩ = some (.bool s.ra)
  c6 : ∀ x : Ext W.heap.size W, x.world.cell? ⟨b, 6, none⟩ = some (.int .u32 s.div)
  fz : ∀ (x : Ext W.heap.size W) i, x.world.frozen? ⟨b, i, none⟩ = false
theorem RtcAt.openX {W : World} {b : Nat} {s : St} (h : RtcAt W b s) : Rtc7X W b s := by
  have k := fun x : Ext W.heap.size W => RtcAt.open (W := x.world) (RowAt.ext h x.ok)
  exact ⟨fun x => (k x).c0, fun x => (k x).c1, fun x => (k x).c2, fun x => (k x).c3, fun x => (k x).c4, fun x => (k x).c5, fun x => (k x).c6, fun x => (k x).fz⟩
theorem RtcAt.ext {W W' : World} {b : Nat} {s : St} (h : RtcAt W b s) (hb : Below W.heap.size W W') : RtcAt W' b s := RowAt.ext h hb
def St.metB (s : St) : Bool := s.en && decide (s.alarm ≤ s.sec)
set_option maxHeartbeats 4000000 in
set_option maxRecDepth 100000 in
theorem met_any (s : St) (w : World) : Calls Try.prog 54 #[.agg #[.int .u64 s.sec, .int .u64 s.alarm, .int .u32 s.rest, .int .u32 s.set, .bool s.en, .bool s.ra]] w fun e w' => e = .returned (.bool s.metB) ∧ Below w.heap.size w w' := by
  rcases Bool.eq_false_or_eq_true s.en with he | he
  · by_cases h : s.alarm ≤ s.sec
    · have hd : decide (s.alarm ≤ s.sec) = true := decide_eq_true h
      have e1 : s.metB = true := by rw [St.metB, he, hd]; rfl
      rw [e1, he]
      clear e1 he h
      go_enter Try.func54, Try.ntmps54
      go_wp2
      go_ret
      exact ⟨rfl, below_new (Below.refl _ _) _⟩
    · have hd : decide (s.alarm ≤ s.sec) = false := decide_eq_false h
      have e1 : s.metB = false := by rw [St.metB, he, hd]; rfl
      rw [e1, he]
      clear e1 he h
      go_enter Try.func54, Try.ntmps54
      go_wp2
      go_ret
      exact ⟨rfl, below_new (Below.refl _ _) _⟩
  · have e1 : s.metB = false := by rw [St.metB, he]; rfl
    rw [e1, he]
    clear e1 he
    go_enter Try.func54, Try.ntmps54
    go_wp2
    go_ret
    exact ⟨rfl, below_new (Below.refl _ _) _⟩
set_option maxHeartbeats 4000000 in
set_option maxRecDepth 100000 in
theorem of_any (b : Nat) (s : St) (w : World) (hR : RtcAt w b s) : Calls Try.prog 46 #[.pointer (some ⟨b, 0, none⟩)] w fun e w' => e = .returned (.agg #[.int .u64 s.sec, .int .u64 s.alarm, .int .u32 s.rest, .int .u32 s.set, .bool s.en, .bool s.ra]) ∧ Below w.heap.size w w' := by
  obtain ⟨c0, c1, c2, c3, c4, c5, c6, fz⟩ := hR.open
  go_enter Try.func46, Try.ntmps46
  have hlt : b < w.heap.size := RowAt.lt hR
  have hne : b ≠ w.heap.size := by omega
  go_wp2
  refine bodyPost_ret (v := .agg #[.int .u64 s.sec, .int .u64 s.alarm, .int .u32 s.rest, .int .u32 s.set, .bool s.en, .bool s.ra]) (by simp [results, Try.results46, go_sem]) rfl ⟨rfl, ?_⟩
  repeat (first | exact Below.refl _ _ | refine below_set ?_ (by simp) _ | refine below_new ?_ _ | refine below_drewN ?_ _ | refine Below.drew ?_)
set_option maxHeartbeats 4000000 in
set_option maxRecDepth 100000 in
theorem of_nil (w : World) : Calls Try.prog 46 #[.pointer none] w fun e w' => e = .returned (.agg #[.int .u64 0, .int .u64 0, .int .u32 0, .int .u32 0, .bool false, .bool false]) ∧ Below w.heap.size w w' := by
  go_enter Try.func46, Try.ntmps46
  go_wp2
  refine bodyPost_ret (v := .agg #[.int .u64 0, .int .u64 0, .int .u32 0, .int .u32 0, .bool false, .bool false]) (by simp [results, Try.results46, go_sem]) rfl ⟨rfl, ?_⟩
  repeat (first | exact Below.refl _ _ | refine below_set ?_ (by simp) _ | refine below_new ?_ _ | refine below_drewN ?_ _ | refine Below.drew ?_)
theorem fld_seconds (s : St) (w : World) : (Instr.field 74 (.agg #[.int .u64 s.sec, .int .u64 s.alarm, .int .u32 s.rest, .int .u32 s.set, .bool s.en, .bool s.ra]) 0).run Try.prog w = .ok (.int .u64 s.sec) w := by kernel_rfl
theorem fldz_seconds (w : World) : (Instr.field 74 (.agg #[.int .u64 0, .int .u64 0, .int .u32 0, .int .u32 0, .bool false, .bool false]) 0).run Try.prog w = .ok (.int .u64 0) w := by kernel_rfl
set_option maxHeartbeats 4000000 in
set_option maxRecDepth 100000 in
theorem seconds_any (b : Nat) (s : St) (w : World) (hR : RtcAt w b s) : Calls Try.prog 14 #[.pointer (some ⟨b, 0, none⟩)] w fun e w' => e = .returned (.int .u64 s.sec) ∧ Below w.heap.size w w' := by
  have HR := Lib.hid hR
  clear hR
  have hfl := fun w => fld_seconds s w
  go_enter Try.func14, Try.ntmps14
  go_wp2_with fail
  refine (of_any b s _ HR.out).mono ?_
  rintro e w1 ⟨rfl, hb1⟩
  go_wp2_with fail
  go_ret
  exact ⟨rfl, hb1⟩
set_option maxHeartbeats 4000000 in
set_option maxRecDepth 100000 in
theorem seconds_nil (w : World) : Calls Try.prog 14 #[.pointer none] w fun e w' => e = .returned (.int .u64 0) ∧ Below w.heap.size w w' := by
  have hfl := fun w => fldz_seconds w
  go_enter Try.func14, Try.ntmps14
  go_wp2_with fail
  refine (of_nil _).mono ?_
  rintro e w1 ⟨rfl, hb1⟩
  go_wp2_with fail
  go_ret
  exact ⟨rfl, hb1⟩
theorem fld_rest (s : St) (w : World) : (Instr.field 74 (.agg #[.int .u64 s.sec, .int .u64 s.alarm, .int .u32 s.rest, .int .u32 s.set, .bool s.en, .bool s.ra]) 2).run Try.prog w = .ok (.int .u32 s.rest) w := by kernel_rfl
theorem fldz_rest (w : World) : (Instr.field 74 (.agg #[.int .u64 0, .int .u64 0, .int .u32 0, .int .u32 0, .bool false, .bool false]) 2).run Try.prog w = .ok (.int .u32 0) w := by kernel_rfl
set_option maxHeartbeats 4000000 in
set_option maxRecDepth 100000 in
theorem rest_any (b : Nat) (s : St) (w : World) (hR : RtcAt w b s) : Calls Try.prog 15 #[.pointer (some ⟨b, 0, none⟩)] w fun e w' => e = .returned (.int .u32 s.rest) ∧ Below w.heap.size w w' := by
  have HR := Lib.hid hR
  clear hR
  have hfl := fun w => fld_rest s w
  go_enter Try.func15, Try.ntmps15
  go_wp2_with fail
  refine (of_any b s _ HR.out).mono ?_
  rintro e w1 ⟨rfl, hb1⟩
  go_wp2_with fail
  go_ret
  exact ⟨rfl, hb1⟩
set_option maxHeartbeats 4000000 in
set_option maxRecDepth 100000 in
theorem rest_nil (w : World) : Calls Try.prog 15 #[.pointer none] w fun e w' => e = .returned (.int .u32 0) ∧ Below w.heap.size w w' := by
  have hfl := fun w => fldz_rest w
  go_enter Try.func15, Try.ntmps15
  go_wp2_with fail
  refine (of_nil _).mono ?_
  rintro e w1 ⟨rfl, hb1⟩
  go_wp2_with fail
  go_ret
  exact ⟨rfl, hb1⟩
theorem fld_alarm (s : St) (w : World) : (Instr.field 74 (.agg #[.int .u64 s.sec, .int .u64 s.alarm, .int .u32 s.rest, .int .u32 s.set, .bool s.en, .bool s.ra]) 1).run Try.prog w = .ok (.int .u64 s.alarm) w := by kernel_rfl
theorem fldz_alarm (w : World) : (Instr.field 74 (.agg #[.int .u64 0, .int .u64 0, .int .u32 0, .int .u32 0, .bool false, .bool false]) 1).run Try.prog w = .ok (.int .u64 0) w := by kernel_rfl
set_option maxHeartbeats 4000000 in
set_option maxRecDepth 100000 in
theorem alarm_any (b : Nat) (s : St) (w : World) (hR : RtcAt w b s) : Calls Try.prog 16 #[.pointer (some ⟨b, 0, none⟩)] w fun e w' => e = .returned (.int .u64 s.alarm) ∧ Below w.heap.size w w' := by
  have HR := Lib.hid hR
  clear hR
  have hfl := fun w => fld_alarm s w
  go_enter Try.func16, Try.ntmps16
  go_wp2_with fail
  refine (of_any b s _ HR.out).mono ?_
  rintro e w1 ⟨rfl, hb1⟩
  go_wp2_with fail
  go_ret
  exact ⟨rfl, hb1⟩
set_option maxHeartbeats 4000000 in
set_option maxRecDepth 100000 in
theorem alarm_nil (w : World) : Calls Try.prog 16 #[.pointer none] w fun e w' => e = .returned (.int .u64 0) ∧ Below w.heap.size w w' := by
  have hfl := fun w => fldz_alarm w
  go_enter Try.func16, Try.ntmps16
  go_wp2_with fail
  refine (of_nil _).mono ?_
  rintro e w1 ⟨rfl, hb1⟩
  go_wp2_with fail
  go_ret
  exact ⟨rfl, hb1⟩
theorem fld_raised (s : St) (w : World) : (Instr.field 74 (.agg #[.int .u64 s.sec, .int .u64 s.alarm, .int .u32 s.rest, .int .u32 s.set, .bool s.en, .bool s.ra]) 5).run Try.prog w = .ok (.bool s.ra) w := by kernel_rfl
theorem fldz_raised (w : World) : (Instr.field 74 (.agg #[.int .u64 0, .int .u64 0, .int .u32 0, .int .u32 0, .bool false, .bool false]) 5).run Try.prog w = .ok (.bool false) w := by kernel_rfl
set_option maxHeartbeats 4000000 in
set_option maxRecDepth 100000 in
theorem raised_any (b : Nat) (s : St) (w : World) (hR : RtcAt w b s) : Calls Try.prog 17 #[.pointer (some ⟨b, 0, none⟩)] w fun e w' => e = .returned (.bool s.ra) ∧ Below w.heap.size w w' := by
  have HR := Lib.hid hR
  clear hR
  have hfl := fun w => fld_raised s w
  go_enter Try.func17, Try.ntmps17
  go_wp2_with fail
  refine (of_any b s _ HR.out).mono ?_
  rintro e w1 ⟨rfl, hb1⟩
  go_wp2_with fail
  go_ret
  exact ⟨rfl, hb1⟩
set_option maxHeartbeats 4000000 in
set_option maxRecDepth 100000 in
theorem raised_nil (w : World) : Calls Try.prog 17 #[.pointer none] w fun e w' => e = .returned (.bool false) ∧ Below w.heap.size w w' := by
  have hfl := fun w => fldz_raised w
  go_enter Try.func17, Try.ntmps17
  go_wp2_with fail
  refine (of_nil _).mono ?_
  rintro e w1 ⟨rfl, hb1⟩
  go_wp2_with fail
  go_ret
  exact ⟨rfl, hb1⟩
set_option maxHeartbeats 4000000 in
set_option maxRecDepth 100000 in
theorem Met_any (b : Nat) (s : St) (w : World) (hR : RtcAt w b s) : Calls Try.prog 23 #[.pointer (some ⟨b, 0, none⟩)] w fun e w' => e = .returned (.bool s.metB) ∧ Below w.heap.size w w' := by
  have HR := Lib.hid hR
  clear hR
  go_enter Try.func23, Try.ntmps23
  go_wp2_with fail
  refine (of_any b s _ HR.out).mono ?_
  rintro e w1 ⟨rfl, hb1⟩
  go_wp2_with fail
  refine (met_any s _).mono ?_
  rintro e w2 ⟨rfl, hb2⟩
  go_wp2_with fail
  go_ret
  exact ⟨rfl, below_then hb1 hb2⟩
set_option maxHeartbeats 4000000 in
set_option maxRecDepth 100000 in
theorem Met_nil (w : World) : Calls Try.prog 23 #[.pointer none] w fun e w' => e = .returned (.bool false) ∧ Below w.heap.size w w' := by
  go_enter Try.func23, Try.ntmps23
  go_wp2_with fail
  refine (of_nil _).mono ?_
  rintro e w1 ⟨rfl, hb1⟩
  go_wp2_with fail
  refine (met_any ⟨0, 0, 0, 0, false, false, 0⟩ _).mono ?_
  rintro e w2 ⟨rfl, hb2⟩
  go_wp2_with fail
  go_ret
  exact ⟨rfl, below_then hb1 hb2⟩
def St.raise (s s1 : St) : St := if s1.metB = true ∧ s.metB = false then { s1 with ra := true } else s1
set_option maxHeartbeats 4000000 in
set_option maxRecDepth 100000 in
theorem change_tick (b : Nat) (s s1 : St) (c1 c2 : Value) (w : World) (hR : RtcAt w b s)
    (hdo : ∀ w1, Below w.heap.size w w1 → Calls Try.prog 39 #[.pointer (some ⟨b, 0, none⟩), c1, c2] w1 fun e w2 => e = .returned (.tuple #[]) ∧ RtcAt w2 b s1 ∧ But b w1 w2) :
    Calls Try.prog 38 #[.pointer (some ⟨b, 0, none⟩), .func (.func 39) #[] #[c1, c2]] w fun e w' => e = .returned (.tuple #[]) ∧ RtcAt w' b (s.raise s1) ∧ But b w w' := by
  obtain ⟨c0, c1', c2', c3, c4, c5, c6, fz⟩ := hR.open
  have hlt : b < w.heap.size := RowAt.lt hR
  have HD := Lib.hid hdo
  clear hdo
  go_enter Try.func38, Try.ntmps38
  go_wp2_with fail
  refine (met_any s _).mono ?_
  rintro e w1 ⟨rfl, hb1⟩
  clear c0 c1' c2' c3 c4 c5 c6 fz
  go_wp2_with fail
  refine (HD.out w1 hb1).mono ?_
  rintro e w2 ⟨rfl, hR2, hb2⟩
  obtain ⟨c0, c1', c2', c3, c4, c5, c6, fz⟩ := RtcAt.open hR2
  have HB := Lib.hid ((but_of hb1 b).trans hb2)
  clear hb1 hb2
  rcases Bool.eq_false_or_eq_true s1.metB with hm1 | hm1
  · rcases Bool.eq_false_or_eq_true s.metB with hm | hm
    · have e1 : s.raise s1 = s1 := by rw [St.raise, if_neg (by rw [hm]; simp)]
      have E1 := Lib.hid e1
      clear e1
      go_wp2_with fail
      refine (met_any s1 _).mono ?_
      rw [hm1]
      rintro e w3 ⟨rfl, hb3⟩
      clear c0 c1' c2' c3 c4 c5 c6 fz
      go_wp2_with fail
      go_end0
      rw [E1.out]
      exact ⟨rfl, RtcAt.ext hR2 hb3, HB.out.trans (but_of hb3 b)⟩
    · have e1 : s.raise s1 = { s1 with ra := true } := by rw [St.raise, if_pos ⟨hm1, hm⟩]
      have E1 := Lib.hid e1
      clear e1
      go_wp2_with fail
      refine (met_any s1 _).mono ?_
      rw [hm1]
      rintro e w3 ⟨rfl, hb3⟩
      clear c0 c1' c2' c3 c4 c5 c6 fz
      have hR3 := RtcAt.ext hR2 hb3
      obtain ⟨c0, c1', c2', c3, c4, c5, c6, fz⟩ := RtcAt.open hR3
      go_wp2_with fail
      go_end0
      rw [E1.out]
      exact ⟨rfl, RowAt.set hR3 5 (.bool true), (HB.out.trans (but_of hb3 b)).set 5 _⟩
  · have e1 : s.raise s1 = s1 := by rw [St.raise, if_neg (by rw [hm1]; simp)]
    have E1 := Lib.hid e1
    clear e1
    go_wp2_with fail
    refine (met_any s1 _).mono ?_
    rw [hm1]
    rintro e w3 ⟨rfl, hb3⟩
    clear c0 c1' c2' c3 c4 c5 c6 fz
    go_wp2_with fail
    go_end0
    rw [E1.out]
    exact ⟨rfl, RtcAt.ext hR2 hb3, HB.out.trans (but_of hb3 b)⟩
set_option maxHeartbeats 4000000 in
set_option maxRecDepth 100000 in
theorem change_store (b : Nat) (s s1 : St) (c1 c2 : Value) (w : World) (hR : RtcAt w b s)
    (hdo : ∀ w1, Below w.heap.size w w1 → Calls Try.prog 42 #[.pointer (some ⟨b, 0, none⟩), c1, c2] w1 fun e w2 => e = .returned (.tuple #[]) ∧ RtcAt w2 b s1 ∧ But b w1 w2) :
    Calls Try.prog 38 #[.pointer (some ⟨b, 0, none⟩), .func (.func 42) #[] #[c1, c2]] w fun e w' => e = .returned (.tuple #[]) ∧ RtcAt w' b (s.raise s1) ∧ But b w w' := by
  obtain ⟨c0, c1', c2', c3, c4, c5, c6, fz⟩ := hR.open
  have hlt : b < w.heap.size := RowAt.lt hR
  have HD := Lib.hid hdo
  clear hdo
  go_enter Try.func38, Try.ntmps38
  go_wp2_with fail
  refine (met_any s _).mono ?_
  rintro e w1 ⟨rfl, hb1⟩
  clear c0 c1' c2' c3 c4 c5 c6 fz
  go_wp2_with fail
  refine (HD.out w1 hb1).mono ?_
  rintro e w2 ⟨rfl, hR2, hb2⟩
  obtain ⟨c0, c1', c2', c3, c4, c5, c6, fz⟩ := RtcAt.open hR2
  have HB := Lib.hid ((but_of hb1 b).trans hb2)
  clear hb1 hb2
  rcases Bool.eq_false_or_eq_true s1.metB with hm1 | hm1
  · rcases Bool.eq_false_or_eq_true s.metB with hm | hm
    · have e1 : s.raise s1 = s1 := by rw [St.raise, if_neg (by rw [hm]; simp)]
      have E1 := Lib.hid e1
      clear e1
      go_wp2_with fail
      refine (met_any s1 _).mono ?_
      rw [hm1]
      rintro e w3 ⟨rfl, hb3⟩
      clear c0 c1' c2' c3 c4 c5 c6 fz
      go_wp2_with fail
      go_end0
      rw [E1.out]
      exact ⟨rfl, RtcAt.ext hR2 hb3, HB.out.trans (but_of hb3 b)⟩
    · have e1 : s.raise s1 = { s1 with ra := true } := by rw [St.raise, if_pos ⟨hm1, hm⟩]
      have E1 := Lib.hid e1
      clear e1
      go_wp2_with fail
      refine (met_any s1 _).mono ?_
      rw [hm1]
      rintro e w3 ⟨rfl, hb3⟩
      clear c0 c1' c2' c3 c4 c5 c6 fz
      have hR3 := RtcAt.ext hR2 hb3
      obtain ⟨c0, c1', c2', c3, c4, c5, c6, fz⟩ := RtcAt.open hR3
      go_wp2_with fail
      go_end0
      rw [E1.out]
      exact ⟨rfl, RowAt.set hR3 5 (.bool true), (HB.out.trans (but_of hb3 b)).set 5 _⟩
  · have e1 : s.raise s1 = s1 := by rw [St.raise, if_neg (by rw [hm1]; simp)]
    have E1 := Lib.hid e1
    clear e1
    go_wp2_with fail
    refine (met_any s1 _).mono ?_
    rw [hm1]
    rintro e w3 ⟨rfl, hb3⟩
    clear c0 c1' c2' c3 c4 c5 c6 fz
    go_wp2_with fail
    go_end0
    rw [E1.out]
    exact ⟨rfl, RtcAt.ext hR2 hb3, HB.out.trans (but_of hb3 b)⟩
end Go.Proofs.Ytdhgcmodlikckaa
