/- The program's clock: ticks, registers. -/
import Derived.Test.YtdhgcmodlikckaaRtcA
import Derived.Test.YtdhgcmodlikckaaTail
namespace Go.Proofs.Ytdhgcmodlikckaa
open Go.RowKit
set_option linter.unusedVariables false
set_option linter.unusedSimpArgs false

def St.tick (s : St) (n : Int) : St := { s with sec := addI s.sec (n / s.div + (s.rest + n % s.div) / s.div), rest := (s.rest + n % s.div) % s.div }
theorem tick_facts (s : St) (ok : s.ok) (n : Int) (n0 : 0 ≤ n) (n1 : n ≤ 18446744073709551615) :
    0 < s.div ∧ 0 ≤ n / s.div ∧ n / s.div ≤ 18446744073709551615 ∧ 0 ≤ n % s.div ∧ n % s.div < s.div ∧ 0 ≤ (s.rest + n % s.div) / s.div ∧ n / s.div + (s.rest + n % s.div) / s.div ≤ 18446744073709551615 ∧ 0 ≤ (s.rest + n % s.div) % s.div ∧ (s.rest + n % s.div) % s.div < s.div := by
  have hd : 0 < s.div := by have := ok.r0; have := ok.r1; omega
  have h1 := Int.ediv_nonneg n0 (Int.le_of_lt hd)
  have h2 := Int.ediv_le_self s.div n0
  have h3 := Int.emod_nonneg n (show s.div ≠ 0 by omega)
  have h4 := Int.emod_lt_of_pos n hd
  have h5 : 0 ≤ (s.rest + n % s.div) / s.div := Int.ediv_nonneg (by have := ok.r0; omega) (Int.le_of_lt hd)
  have h6 : (s.rest + n % s.div) / s.div < 2 := Int.ediv_lt_of_lt_mul hd (by have := ok.r1; omega)
  have h8 := Int.emod_nonneg (s.rest + n % s.div) (show s.div ≠ 0 by omega)
  have h9 := Int.emod_lt_of_pos (s.rest + n % s.div) hd
  refine ⟨hd, h1, by omega, h3, h4, h5, ?_, h8, h9⟩
  by_cases h1d : s.div = 1
  · rw [h1d]
    have := ok.r0
    have := ok.r1
    omega
  · have h7 : n / s.div ≤ 9223372036854775807 := by
      have : n / s.div < 9223372036854775808 := Int.ediv_lt_of_lt_mul hd (by omega)
      omega
    omega
theorem St.tick_ok (s : St) (ok : s.ok) (n : Int) (n0 : 0 ≤ n) (n1 : n ≤ 18446744073709551615) : (s.tick n).ok := by
  obtain ⟨g0, g1, g2, g3, g4, g5, g6, g7, g8⟩ := tick_facts s ok n n0 n1
  have := ok.s0
  refine ⟨?_, ?_, ok.a0, ok.a1, g7, g8, ok.t0, ok.t1, ok.d1⟩
  · show 0 ≤ addI _ _
    unfold addI; split <;> omega
  · show addI _ _ ≤ _
    unfold addI; split <;> omega
set_option maxHeartbeats 4000000 in
set_option maxRecDepth 100000 in
theorem tick1_any (b br bn : Nat) (s : St) (ok : s.ok) (n : Int) (w : World) (n0 : 0 ≤ n) (n1 : n ≤ 18446744073709551615) (hR : RtcAt w b s) (hr : w.cell? ⟨br, 0, none⟩ = some (.pointer (some ⟨b, 0, none⟩))) (hn : w.cell? ⟨bn, 0, none⟩ = some (.int .u64 n)) (hnb : bn ≠ b) :
    Calls Try.prog 39 #[.pointer (some ⟨b, 0, none⟩), .pointer (some ⟨br, 0, none⟩), .pointer (some ⟨bn, 0, none⟩)] w fun e w' => e = .returned (.tuple #[]) ∧ RtcAt w' b (s.tick n) ∧ But b w w' := by
  obtain ⟨g0, g1, g2, g3, g4, g5, g6, g7, g8⟩ := tick_facts s ok n n0 n1
  obtain ⟨s0, s1, a0, a1, r0, r1, t0, t1, d1⟩ := ok
  obtain ⟨c0, c1, c2, c3, c4, c5, c6, fz⟩ := hR.openX
  have kr := fun x : Ext w.heap.size w => x.cell hr
  have kn := fun x : Ext w.heap.size w => x.cell hn
  have HR := Lib.hid hR
  clear hr hn hR
  have q1 : IntKind.u64.wrap ((s.rest + n % s.div).tdiv s.div) = (s.rest + n % s.div) / s.div := by
    rw [Int.tdiv_eq_ediv_of_nonneg (by omega), IntKind.wrap_u64]; omega
  have q2 : IntKind.u64.wrap (n / s.div + (s.rest + n % s.div) / s.div) = n / s.div + (s.rest + n % s.div) / s.div := by
    rw [IntKind.wrap_u64]; omega
  have hA : 0 ≤ n / s.div + (s.rest + n % s.div) / s.div := by omega
  go_enter Try.func39, Try.ntmps39
  refine wp_start (w := w) ?_
  intro x
  go_wp2_with fail
  refine wp_region_ext _ (by kernel_rfl) (by kernel_rfl) ?_
  repeat (go_big_quiet_step (fail))
  refine wpQuiet_nil ?_
  rintro _ ⟨y, rfl⟩
  go_wp2_with fail
  refine wp_region_ext_tail _ 13 (by kernel_rfl) (by kernel_rfl) (by kernel_rfl) ?_
  simp only [List.take_succ_cons, List.take_zero, List.drop_succ_cons, List.drop_zero]
  repeat (go_big_quiet_step ((go_at_call 40; exact Ext.call (add_any _ _ _ s0 s1 hA g6))))
  refine wpQuiet_nil ?_
  rintro _ ⟨y, rfl⟩
  go_wp2_with fail
  go_end0
  have e5 : (s.rest + n % s.div) % s.div = (s.rest + n) % s.div := by simp
  rw [← e5, Int.emod_eq_of_lt g7 (show (s.rest + n % s.div) % s.div < 4294967296 by omega)]
  exact ⟨rfl, ((RowAt.ext HR.out y.ok).set 0 _).set 2 _, ((but_of y.ok b).set 0 _).set 2 _⟩
set_option maxHeartbeats 4000000 in
set_option maxRecDepth 100000 in
theorem tick_any (b : Nat) (s : St) (ok : s.ok) (n : Int) (w : World) (n0 : 0 ≤ n) (n1 : n ≤ 18446744073709551615) (hR : RtcAt w b s) :
    Calls Try.prog 12 #[.pointer (some ⟨b, 0, none⟩), .int .u64 n] w fun e w' => e = .returned (.tuple #[]) ∧ RtcAt w' b (s.raise (s.tick n)) ∧ But b w w' := by
  have hlt : b < w.heap.size := RowAt.lt hR
  have HK := Lib.hid ok
  clear ok
  go_enter Try.func12, Try.ntmps12
  go_wp2_with fail
  refine calls_box2 ?_
  intro W hB b0 b1 hW
  have hRW := RtcAt.ext hR hB
  have HB := Lib.hid hB
  clear hB hR
  have kr : W.cell? ⟨w.heap.size, 0, none⟩ = some (.pointer (some ⟨b, 0, none⟩)) := cell_of_row W _ 0 _ _ (0, 0) b0
  have kn : W.cell? ⟨w.heap.size + 1, 0, none⟩ = some (.int .u64 n) := cell_of_row W _ 0 _ _ (0, 0) b1
  refine (change_tick b s (s.tick n) _ _ W hRW (fun w1 hb1 => tick1_any b _ _ s HK.out n w1 n0 n1 (RtcAt.ext hRW hb1) ((hb1.cell (by simp; omega)).trans kr) ((hb1.cell (by simp; omega)).trans kn) (by omega))).mono ?_
  rintro e w2 ⟨rfl, hR2, hb2⟩
  go_wp2_with fail
  go_end0
  exact ⟨rfl, hR2, (but_of HB.out b).trans hb2⟩
theorem tick_nil (n : Int) (w : World) : Calls Try.prog 12 #[.pointer none, .int .u64 n] w fun e w' => e = .returned (.tuple #[]) ∧ Below w.heap.size w w' := by
  go_enter Try.func12, Try.ntmps12
  go_wp2
  refine bodyPost_ret (results_none rfl _ _ _) rfl ?_
  exact ⟨rfl, by repeat (first | exact Below.refl _ _ | refine below_set ?_ (by simp) _ | refine below_new ?_ _ | refine below_drewN ?_ _ | refine Below.drew ?_)⟩
def placeI (off : Int) : Int × Int := if off % 4 ≠ 0 then (0, 11) else if 36 ≤ off then (0, 10) else (off / 4, 0)
set_option maxHeartbeats 4000000 in
set_option maxRecDepth 100000 in
theorem place_any (b : Nat) (off : Int) (w : World) (o0 : 0 ≤ off) (o1 : off ≤ 4294967295) : Calls Try.prog 41 #[.pointer (some ⟨b, 0, none⟩), .int .u32 off] w fun e w' => e = .returned (.tuple #[.int .i64 (placeI off).1, .int .i64 (placeI off).2]) ∧ Below w.heap.size w w' := by
  by_cases h1 : off % 4 = 0
  · by_cases h2 : 36 ≤ off
    · have e1 : placeI off = (0, 10) := by rw [placeI, if_neg (by omega), if_pos h2]
      rw [e1]
      clear e1
      have g1 : (off % 4 != 0) = false := by rw [h1]; rfl
      have g2 : decide (9 ≤ off / 4) = true := by simp; omega
      clear h1
      go_enter Try.func41, Try.ntmps41
      go_wp2
      go_ret2
      exact ⟨rfl, Below.refl _ _⟩
    · have e1 : placeI off = (off / 4, 0) := by rw [placeI, if_neg (by omega), if_neg h2]
      rw [e1]
      clear e1
      have g1 : (off % 4 != 0) = false := by rw [h1]; rfl
      have g2 : decide (9 ≤ off / 4) = false := by simp; omega
      clear h1
      go_enter Try.func41, Try.ntmps41
      go_wp2
      go_ret2
      exact ⟨rfl, Below.refl _ _⟩
  · have e1 : placeI off = (0, 11) := by rw [placeI, if_pos h1]
    rw [e1]
    clear e1
    have g1 : (off % 4 != 0) = true := by simpa using h1
    go_enter Try.func41, Try.ntmps41
    go_wp2
    go_ret2
    exact ⟨rfl, Below.refl _ _⟩
set_option maxHeartbeats 4000000 in
set_option maxRecDepth 100000 in
theorem place_nil (off : Int) (w : World) : Calls Try.prog 41 #[.pointer none, .int .u32 off] w fun e w' => e = .returned (.tuple #[.int .i64 0, .int .i64 10]) ∧ Below w.heap.size w w' := by
  go_enter Try.func41, Try.ntmps41
  go_wp2
  go_ret2
  exact ⟨rfl, Below.refl _ _⟩
def flagI (b : Bool) : Int := if b = true then 1 else 0
set_option maxHeartbeats 4000000 in
set_option maxRecDepth 100000 in
theorem flag_any (b : Bool) (w : World) : Calls Try.prog 57 #[.bool b] w fun e w' => e = .returned (.int .u32 (flagI b)) ∧ Below w.heap.size w w' := by
  cases b <;>
  · go_enter Try.func57, Try.ntmps57
    go_wp2
    go_ret
    exact ⟨rfl, Below.refl _ _⟩
def St.words (s : St) : List Int := [s.sec % 4294967296, s.sec / 4294967296, s.set, 0, s.alarm % 4294967296, s.alarm / 4294967296, flagI s.en, flagI s.ra, s.div]
def St.load (s : St) (off : Int) : Int × Int := if (placeI off).2 = 0 then (s.words.getD (off / 4).toNat 0, 0) else (0, (placeI off).2)
theorem run_index_arr {P : Program} (w : World) (t e : TypeId) (n : Nat) (k ke : IntKind) (cs : Array Value) (i : Int) (v : Value) (info : TypeInfo) (ht : P.underlying t = some (.array n e)) (he : P.underlying e = some (.int ke)) (hi : P.info? e = some info) (hz : info.size = 1)
    (h0 : 0 ≤ i) (h1 : i < n) (hv : cs[i.toNat]? = some v) : (Instr.index t (.agg cs) (.int k i)).run P w = .ok v w := by
  simp [Instr.index, asIntOf, run_underlying ht, h0, h1, sizeOf, typeInfo, hi, hz, part, isAgg, run_underlying he, hv]
theorem infoU32 : (Try.prog.info? 22).map (·.size) = some 1 := by kernel_rfl
theorem place_cases (off : Int) : (placeI off = (off / 4, 0) ∧ off % 4 = 0 ∧ off < 36) ∨ (placeI off = (0, (placeI off).2) ∧ ((placeI off).2 = 10 ∨ (placeI off).2 = 11)) := by
  unfold placeI
  by_cases h1 : off % 4 = 0
  · rw [if_neg (by omega)]
    by_cases h2 : 36 ≤ off
    · rw [if_pos h2]; exact .inr ⟨rfl, .inl rfl⟩
    · rw [if_neg h2]; exact .inl ⟨rfl, h1, by omega⟩
  · rw [if_pos h1]; exact .inr ⟨rfl, .inr rfl⟩
set_option maxHeartbeats 4000000 in
set_option maxRecDepth 100000 in
theorem load_any (b : Nat) (s : St) (ok : s.ok) (off : Int) (w : World) (o0 : 0 ≤ off) (o1 : off ≤ 4294967295) (hR : RtcAt w b s) : Calls Try.prog 25 #[.pointer (some ⟨b, 0, none⟩), .int .u32 off] w fun e w' => e = .returned (.tuple #[.int .u32 (s.load off).1, .int .i64 (s.load off).2]) ∧ Below w.heap.size w w' := by
  rcases place_cases off with ⟨hp, hm, hl⟩ | ⟨hp, he⟩
  · have e1 : s.load off = (s.words.getD (off / 4).toNat 0, 0) := by rw [St.load, hp, if_pos rfl]
    rw [e1]
    clear e1
    have hpl := place_any b off w o0 o1
    rw [hp] at hpl
    have HP := Lib.hid hpl
    clear hpl hp
    obtain ⟨s0, s1, a0, a1, r0, r1, t0, t1, d1⟩ := ok
    obtain ⟨c0, c1, c2, c3, c4, c5, c6, fz⟩ := hR.openX
    clear hR
    obtain ⟨i, hi, hz⟩ := Option.map_eq_some_iff.1 infoU32
    have hx := fun w => run_index_arr (P := Try.prog) w 97 22 9 .i64 .u32 #[.int .u32 (s.sec % 4294967296), .int .u32 (s.sec / 4294967296), .int .u32 s.set, .int .u32 0, .int .u32 (s.alarm % 4294967296), .int .u32 (s.alarm / 4294967296), .int .u32 (flagI s.en), .int .u32 (flagI s.ra), .int .u32 s.div] (off / 4) (.int .u32 (s.words.getD (off / 4).toNat 0)) i Try.underlying97 Try.underlying22 hi hz (by omega) (by omega) (by
      have : #[.int .u32 (s.sec % 4294967296), .int .u32 (s.sec / 4294967296), .int .u32 s.set, .int .u32 0, .int .u32 (s.alarm % 4294967296), .int .u32 (s.alarm / 4294967296), .int .u32 (flagI s.en), .int .u32 (flagI s.ra), .int .u32 s.div] = (s.words.map (Value.int .u32)).toArray := rfl
      rw [this, List.getElem?_toArray, List.getElem?_map, List.getD_eq_getElem?_getD, List.getElem?_eq_getElem (show (off / 4).toNat < s.words.length by simp [St.words]; omega)]
      rfl)
    clear hi hz i hm
    go_enter Try.func25, Try.ntmps25
    go_wp2_with fail
    refine HP.out.mono ?_
    rintro e w1 ⟨rfl, hb1⟩
    obtain ⟨x, rfl⟩ := Ext.of hb1
    clear hb1
    go_wp2_with fail
    refine wp_region_ext _ (by kernel_rfl) (by kernel_rfl) ?_
    repeat (go_big_quiet_step (first | (go_at_call 45; exact Ext.call (lo_any _ _ s0 s1)) | (go_at_call 44; exact Ext.call (hi_any _ _ s0 s1)) | (go_at_call 45; exact Ext.call (lo_any _ _ a0 a1)) | (go_at_call 44; exact Ext.call (hi_any _ _ a0 a1)) | (go_at_call 57; exact Ext.call (flag_any _ _))))
    refine wpQuiet_nil ?_
    rintro _ ⟨y, rfl⟩
    go_wp2_with fail
    go_ret2
    exact ⟨rfl, y.ok⟩
  · have e1 : s.load off = (0, (placeI off).2) := by rw [St.load, if_neg (by omega)]
    rw [e1]
    clear e1
    have hpl := place_any b off w o0 o1
    rw [hp] at hpl
    have HP := Lib.hid hpl
    clear hpl hp
    have g1 : ((placeI off).2 != 0) = true := by simp; omega
    go_enter Try.func25, Try.ntmps25
    go_wp2_with fail
    refine HP.out.mono ?_
    rintro e w1 ⟨rfl, hb1⟩
    go_wp2_with fail
    go_ret2
    exact ⟨rfl, hb1⟩
set_option maxHeartbeats 4000000 in
set_option maxRecDepth 100000 in
theorem load_nil (off : Int) (w : World) : Calls Try.prog 25 #[.pointer none, .int .u32 off] w fun e w' => e = .returned (.tuple #[.int .u32 0, .int .i64 10]) ∧ Below w.heap.size w w' := by
  go_enter Try.func25, Try.ntmps25
  go_wp2_with fail
  refine (place_nil off w).mono ?_
  rintro e w1 ⟨rfl, hb1⟩
  go_wp2_with fail
  go_ret2
  exact ⟨rfl, hb1⟩
end Go.Proofs.Ytdhgcmodlikckaa
