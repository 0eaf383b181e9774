/- A hart's line: the walk of the law ClintLines. -/
import Derived.Test.YtaihebdjhbnhoaaClG
namespace Go.Proofs.Ytaihebdjhbnhoaa
open Go.RowKit
set_option linter.unusedVariables false
set_option linter.unusedSimpArgs false

theorem pl_low {N h : Nat} (hh : h < N) (hN : N ≤ 8) : pl N (16384 + 8 * (h : Int)) = some (2, (h : Int)) := by
  induction N with
  | zero => omega
  | succ k ih =>
    simp only [pl]
    rw [if_neg (by omega)]
    by_cases e : h = k
    · subst e; rw [if_pos rfl]
    · rw [if_neg (by omega), if_neg (by omega)]
      exact ih (by omega) (by omega)
theorem pl_high {N h : Nat} (hh : h < N) (hN : N ≤ 8) : pl N (16388 + 8 * (h : Int)) = some (3, (h : Int)) := by
  induction N with
  | zero => omega
  | succ k ih =>
    simp only [pl]
    by_cases e : h = k
    · subst e; rw [if_pos rfl]
    · rw [if_neg (by omega), if_neg (by omega), if_neg (by omega)]
      exact ih (by omega) (by omega)
theorem store_low {c : Cl} {h : Nat} (hh : h < c.n) (hN : c.n ≤ 8) (v : Int) : storeI c (16384 + 8 * (h : Int)) v = ({ c with cmp := upd c.cmp h (c.cmp h / 4294967296 * 4294967296 + v) }, 0) := by
  unfold storeI
  rw [if_neg (by omega), pl_low hh hN]
  simp
theorem store_high {c : Cl} {h : Nat} (hh : h < c.n) (hN : c.n ≤ 8) (v : Int) : storeI c (16388 + 8 * (h : Int)) v = ({ c with cmp := upd c.cmp h (v * 4294967296 + c.cmp h % 4294967296) }, 0) := by
  unfold storeI
  rw [if_neg (by omega), pl_high hh hN]
  simp
/-- One hart with a comparator, all others without. -/
def lnC (N h : Nat) (d t : Int) : Cl := ⟨t, fun i => if i = h then d else 18446744073709551615, fun _ => 0, N⟩
theorem lnC_ok {N h : Nat} {d t : Int} (hN : N ≤ 8) (d0 : 0 ≤ d) (d1 : d ≤ 18446744073709551615) (t0 : 0 ≤ t) (t1 : t ≤ 18446744073709551615) : (lnC N h d t).ok := by
  refine ⟨t0, t1, fun i => ?_, fun i => ?_, fun i => ?_, fun i => ?_, hN⟩ <;> (simp only [lnC]; first | (split <;> omega) | omega)
theorem upd_ln (h : Nat) (v : Int) : upd (fun _ => 18446744073709551615) h v = fun i => if i = h then v else 18446744073709551615 := rfl
theorem upd_ln2 (h : Nat) (d v : Int) : upd (fun i => if i = h then d else 18446744073709551615) h v = fun i => if i = h then v else 18446744073709551615 := by
  funext i
  unfold upd
  by_cases e : i = h <;> simp [e]
theorem ln_low0 {N h : Nat} (hh : h < N) (hN : N ≤ 8) (v : Int) : storeI (clNew N) (16384 + 8 * (h : Int)) v = (lnC N h (18446744069414584320 + v) 0, 0) := by
  rw [store_low (c := clNew N) hh hN]
  rfl
theorem ln_high0 {N h : Nat} (hh : h < N) (hN : N ≤ 8) (v : Int) : storeI (clNew N) (16388 + 8 * (h : Int)) v = (lnC N h (v * 4294967296 + 4294967295) 0, 0) := by
  rw [store_high (c := clNew N) hh hN]
  rfl
theorem ln_low {N h : Nat} (hh : h < N) (hN : N ≤ 8) (d v : Int) : storeI (lnC N h d 0) (16384 + 8 * (h : Int)) v = (lnC N h (d / 4294967296 * 4294967296 + v) 0, 0) := by
  rw [store_low (c := lnC N h d 0) hh hN]
  simp only [lnC, if_true, upd_ln2]
theorem ln_high {N h : Nat} (hh : h < N) (hN : N ≤ 8) (d v : Int) : storeI (lnC N h d 0) (16388 + 8 * (h : Int)) v = (lnC N h (v * 4294967296 + d % 4294967296) 0, 0) := by
  rw [store_high (c := lnC N h d 0) hh hN]
  simp only [lnC, if_true, upd_ln2]
theorem line_ln {N h : Nat} (hh : h < N) (d t : Int) : lineB (lnC N h d t) (h : Int) = decide (d ≤ t) := by
  unfold lineB hasB lnC
  simp [hh]
theorem line_ln2 {N h x : Nat} (hx : x ≠ h) (d t : Int) (ht : t < 18446744073709551615) : lineB (lnC N h d t) (x : Int) = false := by
  unfold lineB hasB lnC
  simp [hx]
  omega
theorem cmp_ln {N h : Nat} (hh : h < N) (d t : Int) : cmpI (lnC N h d t) (h : Int) = d := by
  unfold cmpI hasB lnC
  simp [hh]
theorem tick_ln {N h : Nat} {d t n : Int} (hs : t + n ≤ 18446744073709551615) : ({ lnC N h d t with time := addI (lnC N h d t).time n } : Cl) = lnC N h d (t + n) := by
  simp [lnC, addI, hs]
/-- The arguments of the law, in small numbers. -/
theorem harts_in (a : Int) : ∃ N : Nat, 1 ≤ N ∧ N ≤ 8 ∧ wrap64 (1 + wrap64 ((IntKind.u64.wrap a).tmod 8)) = (N : Int) := by
  rw [IntKind.wrap_u64]
  have h0 : 0 ≤ a % 18446744073709551616 := Int.emod_nonneg _ (by decide)
  rw [Int.tmod_eq_emod_of_nonneg h0]
  have h1 := Int.emod_nonneg (a % 18446744073709551616) (b := 8) (by decide)
  have h2 := Int.emod_lt_of_pos (a % 18446744073709551616) (b := 8) (by decide)
  refine ⟨(1 + a % 18446744073709551616 % 8).toNat, by omega, by omega, ?_⟩
  unfold wrap64
  omega
theorem hart_in (a : Int) (N : Nat) (hN : 1 ≤ N) (hN8 : N ≤ 8) : ∃ h : Nat, h < N ∧ wrap64 ((IntKind.u64.wrap a).tmod (N : Int)) = (h : Int) := by
  rw [IntKind.wrap_u64]
  have h0 : 0 ≤ a % 18446744073709551616 := Int.emod_nonneg _ (by decide)
  rw [Int.tmod_eq_emod_of_nonneg h0]
  have h1 := Int.emod_nonneg (a % 18446744073709551616) (b := (N : Int)) (by omega)
  have h2 := Int.emod_lt_of_pos (a % 18446744073709551616) (b := (N : Int)) (by omega)
  refine ⟨(a % 18446744073709551616 % N).toNat, by omega, ?_⟩
  unfold wrap64
  omega

theorem s_high0 {N h : Nat} (hh : h < N) (hN : N ≤ 8) (b : Nat) (w : World) (v : Int) (v0 : 0 ≤ v) (v1 : v ≤ 4294967295) (hA : ClAt w b (clNew N)) : Calls Try.prog 27 #[.pointer (some ⟨b, 0, none⟩), .int .u32 (16384 + 8 * (h : Int) + 4), .int .u32 v] w fun e w' => e = .returned (.int .i64 0) ∧ ClAt w' b (lnC N h (v * 4294967296 + 4294967295) 0) ∧ But b w w' := by
  have q := store_live b (clNew N) w hA (clNew_ok hN) (16388 + 8 * (h : Int)) v (by omega) v0 v1
  rw [ln_high0 hh hN, show 16388 + 8 * (h : Int) = 16384 + 8 * (h : Int) + 4 by omega] at q
  exact q
theorem s_low0 {N h : Nat} (hh : h < N) (hN : N ≤ 8) (b : Nat) (w : World) (v : Int) (v0 : 0 ≤ v) (v1 : v ≤ 4294967295) (hA : ClAt w b (clNew N)) : Calls Try.prog 27 #[.pointer (some ⟨b, 0, none⟩), .int .u32 (16384 + 8 * (h : Int)), .int .u32 v] w fun e w' => e = .returned (.int .i64 0) ∧ ClAt w' b (lnC N h (18446744069414584320 + v) 0) ∧ But b w w' := by
  have q := store_live b (clNew N) w hA (clNew_ok hN) (16384 + 8 * (h : Int)) v (by omega) v0 v1
  rw [ln_low0 hh hN] at q
  exact q
theorem s_high {N h : Nat} (hh : h < N) (hN : N ≤ 8) (d : Int) (d0 : 0 ≤ d) (d1 : d ≤ 18446744073709551615) (b : Nat) (w : World) (v : Int) (v0 : 0 ≤ v) (v1 : v ≤ 4294967295) (hA : ClAt w b (lnC N h d 0)) : Calls Try.prog 27 #[.pointer (some ⟨b, 0, none⟩), .int .u32 (16384 + 8 * (h : Int) + 4), .int .u32 v] w fun e w' => e = .returned (.int .i64 0) ∧ ClAt w' b (lnC N h (v * 4294967296 + d % 4294967296) 0) ∧ But b w w' := by
  have q := store_live b (lnC N h d 0) w hA (lnC_ok hN d0 d1 (by decide) (by decide)) (16388 + 8 * (h : Int)) v (by omega) v0 v1
  rw [ln_high hh hN, show 16388 + 8 * (h : Int) = 16384 + 8 * (h : Int) + 4 by omega] at q
  exact q
theorem s_low {N h : Nat} (hh : h < N) (hN : N ≤ 8) (d : Int) (d0 : 0 ≤ d) (d1 : d ≤ 18446744073709551615) (b : Nat) (w : World) (v : Int) (v0 : 0 ≤ v) (v1 : v ≤ 4294967295) (hA : ClAt w b (lnC N h d 0)) : Calls Try.prog 27 #[.pointer (some ⟨b, 0, none⟩), .int .u32 (16384 + 8 * (h : Int)), .int .u32 v] w fun e w' => e = .returned (.int .i64 0) ∧ ClAt w' b (lnC N h (d / 4294967296 * 4294967296 + v) 0) ∧ But b w w' := by
  have q := store_live b (lnC N h d 0) w hA (lnC_ok hN d0 d1 (by decide) (by decide)) (16384 + 8 * (h : Int)) v (by omega) v0 v1
  rw [ln_low hh hN] at q
  exact q
theorem t_ln {N h : Nat} (hN : N ≤ 8) (d t : Int) (d0 : 0 ≤ d) (d1 : d ≤ 18446744073709551615) (t0 : 0 ≤ t) (b : Nat) (w : World) (n : Int) (n0 : 0 ≤ n) (hs : t + n ≤ 18446744073709551615) (hA : ClAt w b (lnC N h d t)) : Calls Try.prog 29 #[.pointer (some ⟨b, 0, none⟩), .int .u64 n] w fun e w' => e = .returned (.tuple #[]) ∧ ClAt w' b (lnC N h d (t + n)) ∧ But b w w' := by
  have q := tick_live b (lnC N h d t) w hA (lnC_ok hN d0 d1 t0 (by omega)) n n0 (by omega)
  rw [tick_ln hs] at q
  exact q
theorem l_ln {N h : Nat} (hh : h < N) (hN : N ≤ 8) (d t : Int) (b : Nat) (w : World) (hA : ClAt w b (lnC N h d t)) : Calls Try.prog 30 #[.pointer (some ⟨b, 0, none⟩), .int .i64 (h : Int)] w fun e w' => e = .returned (.bool (decide (d ≤ t))) ∧ Below w.heap.size w w' := by
  have q := line_live b (lnC N h d t) w hA hN (h : Int)
  rw [line_ln hh] at q
  exact q
theorem l_ln2 {N h x : Nat} (hx : x ≠ h) (hN : N ≤ 8) (d t : Int) (ht : t < 18446744073709551615) (b : Nat) (w : World) (hA : ClAt w b (lnC N h d t)) : Calls Try.prog 30 #[.pointer (some ⟨b, 0, none⟩), .int .i64 (x : Int)] w fun e w' => e = .returned (.bool false) ∧ Below w.heap.size w w' := by
  have q := line_live b (lnC N h d t) w hA hN (x : Int)
  rw [line_ln2 hx d t ht] at q
  exact q
theorem c_ln {N h : Nat} (hh : h < N) (hN : N ≤ 8) (d t : Int) (b : Nat) (w : World) (hA : ClAt w b (lnC N h d t)) : Calls Try.prog 33 #[.pointer (some ⟨b, 0, none⟩), .int .i64 (h : Int)] w fun e w' => e = .returned (.int .u64 d) ∧ Below w.heap.size w w' := by
  have q := compare_live b (lnC N h d t) w hA hN (h : Int)
  rw [cmp_ln hh] at q
  exact q
set_option maxHeartbeats 32000000 in
set_option maxRecDepth 100000 in
theorem ClintLines_walk (harts hart lo hi : Int) (upper : Bool) (a : Option Addr) (len cap : Nat) (zs : List Int) (W : World) (b00 : -9223372036854775808 ≤ harts) (b01 : harts ≤ 9223372036854775807) (b10 : -9223372036854775808 ≤ hart) (b11 : hart ≤ 9223372036854775807) (hlo0 : 0 ≤ lo) (hlo1 : lo ≤ 4294967295) (hhi0 : 0 ≤ hi) (hhi1 : hi ≤ 4294967295) (hcap : len ≤ cap) (hlen : cap ≤ 9223372036854775807)
    (hz : 0 < len → ∃ p, a = some p ∧ p.block < W.heap.size ∧ ∀ k, k < len → W.cell? (p.add k) = some (.int .u64 (zs.getD k 0))) (hg : ∀ k, 0 ≤ zs.getD k 0 ∧ zs.getD k 0 ≤ 18446744073709551615) :
    Calls Try.prog 8 #[.int .i64 harts, .int .i64 hart, .int .u32 lo, .int .u32 hi, .bool upper, .slice a len cap] W fun e w' => e = .returned (.bool true) ∧ Below W.heap.size W w' := by
  have HG := Lib.hid hg
  have HZ := Lib.hid hz
  clear b00 b01 b10 b11
  obtain ⟨N, hN1, hN8, hN⟩ := harts_in harts
  obtain ⟨h, hh, hH⟩ := hart_in hart N hN1 hN8
  have HN := Lib.hid hN
  have HH := Lib.hid hH
  have hi1 : (1 : Int) ≤ (N : Int) := by omega
  have hi8 : (N : Int) ≤ 8 := by omega
  have h8 : (h : Int) < 8 := by omega
  have d0 : 0 ≤ hi * 4294967296 + lo := by omega
  have d1 : hi * 4294967296 + lo ≤ 18446744073709551615 := by omega
  clear hg hz hN hH
  go_enter Try.func8, Try.ntmps8
  go_upto_region 2 with (fail)
  rw [HN.out]
  go_upto_region 3 with (fail)
  rw [HH.out]
  cases upper with
  | true =>
    go_wp2_with fail
    refine (new_good N _ hN1 hN8).mono ?_
    rintro e w1 ⟨b, rfl, hb, hA, hB⟩
    have HA1 := Lib.hid hA
    have HB1 := Lib.hid hB
    clear hA hB
    go_wp2_with fail
    refine (s_high0 hh hN8 b w1 hi hhi0 hhi1 HA1.out).mono ?_
    rintro e w2 ⟨rfl, hA2, hB2⟩
    have HA2 := Lib.hid hA2
    have HB2 := Lib.hid (But.below HB1.out hB2 hb HB1.out.size)
    clear hA2 hB2
    go_wp2_with fail
    refine (s_low hh hN8 _ (by omega) (by omega) b w2 lo hlo0 hlo1 HA2.out).mono ?_
    rintro e w3 ⟨rfl, hA3, hB3⟩
    have HA3 := Lib.hid hA3
    have HB3 := Lib.hid (But.below HB2.out hB3 hb HB2.out.size)
    clear hA3 hB3
    go_wp2_with fail
    refine (s_high hh hN8 _ (by omega) (by omega) b w3 hi hhi0 hhi1 HA3.out).mono ?_
    rintro e w4 ⟨rfl, hA4, hB4⟩
    have HA4 := Lib.hid hA4
    have HB4 := Lib.hid (But.below HB3.out hB4 hb HB3.out.size)
    clear hA4 hB4
    rw [show hi * 4294967296 + ((hi * 4294967296 + 4294967295) / 4294967296 * 4294967296 + lo) % 4294967296 = hi * 4294967296 + lo by omega] at HA4
    go_wp2_with fail
    refine (copy_live b _ w4 HA4.out).mono ?_
    rintro e w5 ⟨b2, rfl, hb2, hC5, hb5⟩
    have HA5 := Lib.hid (ClAt.ext HA4.out hb5)
    have HC5 := Lib.hid hC5
    have HB5 := Lib.hid (below_then HB4.out hb5)
    have hbb : b ≠ b2 := by have := RowAt.lt HA4.out; omega
    have hb2W : W.heap.size ≤ b2 := Nat.le_trans HB4.out.size hb2
    clear hC5 hb5 hb2
    go_wp2_with fail
    go_loopw [19] (fun i wr => ∃ (k : Nat) (t : Int), k ≤ 20 ∧ i = .int .i64 k ∧ 0 ≤ t ∧ t ≤ 576460752303423487 * (k : Int) ∧ ClAt wr b (lnC N h (hi * 4294967296 + lo) t) ∧ ClAt wr b2 (lnC N h (hi * 4294967296 + lo) t) ∧ Below W.heap.size W wr) (fun i _ => 20 - (intOf i).toNat)
    case atStart => exact ⟨0, 0, by omega, rfl, by omega, by omega, HA5.out, HC5.out, HB5.out⟩
    case round =>
      clear HA1 HB1 HA2 HB2 HA3 HB3 HA4 HB4 HA5 HC5 HB5
      obtain ⟨k, t, hk, rfl, t0, t1, hA, hC, hB⟩ := hrel
      have HA := Lib.hid hA
      have HC := Lib.hid hC
      have HB := Lib.hid hB
      have tt : t ≤ 11529215046068469740 := by omega
      have hblt := Lib.hid (RowAt.lt hA)
      clear hA hC hB
      by_cases hlt : k < len ∧ k < 20
      · obtain ⟨h1, h2⟩ := hlt
        obtain ⟨q, rfl, hq, hcl⟩ := HZ.out (by omega)
        have hx := HG.out k
        obtain ⟨x, hxe⟩ : ∃ x, zs.getD k 0 = x := ⟨_, rfl⟩
        have c0 := (HB.out.cell (p := q.add k) (by rw [addr_add_block]; exact hq)).trans (hcl k h1)
        rw [hxe] at hx c0
        obtain ⟨x0, x1⟩ := hx
        have g1 : decide ((k : Int) < (len : Int)) = true := dec_t (by omega)
        have g1' : decide (k < len) = true := dec_t h1
        have g2 : decide ((k : Int) < 20) = true := dec_t (by omega)
        have n0 : 0 ≤ x % 576460752303423488 := Int.emod_nonneg _ (by decide)
        have n1 : x % 576460752303423488 ≤ 576460752303423487 := by have := Int.emod_lt_of_pos x (b := 576460752303423488) (by decide); omega
        have hsum : t + x % 576460752303423488 ≤ 576460752303423487 * ((k + 1 : Nat) : Int) := by omega
        have HSUM := Lib.hid hsum
        have hsu : t + x % 576460752303423488 < 18446744073709551615 := by omega
        have hh1 : t + x % 576460752303423488 / 2 ≤ 18446744073709551615 := by omega
        have hh0 : 0 ≤ t + x % 576460752303423488 / 2 := by omega
        have he : Hid (t + x % 576460752303423488 / 2 + (x % 576460752303423488 - x % 576460752303423488 / 2) = t + x % 576460752303423488) := by show _ = _; omega
        clear hxe hcl hq hsum t1
        go_wp2_with fail
        refine (t_ln hN8 _ t d0 d1 t0 b wr _ n0 (by omega) HA.out).mono ?_
        rintro e w6 ⟨rfl, hA6, hB6⟩
        have HA6 := Lib.hid hA6
        have HC6 := Lib.hid (ClAt.but HC.out hB6 hbb.symm)
        have HB6 := Lib.hid (But.below HB.out hB6 hb HB.out.size)
        clear hA6 hB6 c0
        go_wp2_with fail
        refine (t_ln hN8 _ t d0 d1 t0 b2 w6 _ (by omega) hh1 HC6.out).mono ?_
        rintro e w7 ⟨rfl, hC7, hB7⟩
        have HC7 := Lib.hid hC7
        have HA7 := Lib.hid (ClAt.but HA6.out hB7 hbb)
        have HB7 := Lib.hid (But.below HB6.out hB7 hb2W HB6.out.size)
        clear hC7 hB7
        go_wp2_with fail
        refine (t_ln hN8 _ _ d0 d1 hh0 b2 w7 _ (by omega) (by omega) HC7.out).mono ?_
        rintro e w8 ⟨rfl, hC8, hB8⟩
        rw [he.out] at hC8
        have HC8 := Lib.hid hC8
        have HA8 := Lib.hid (ClAt.but HA7.out hB8 hbb)
        have HB8 := Lib.hid (But.below HB7.out hB8 hb2W HB7.out.size)
        clear hC8 hB8
        go_wp2_with fail
        refine (l_ln hh hN8 _ _ b w8 HA8.out).mono ?_
        rintro e w9 ⟨rfl, hb9⟩
        have HA9 := Lib.hid (ClAt.ext HA8.out hb9)
        have HC9 := Lib.hid (ClAt.ext HC8.out hb9)
        have HB9 := Lib.hid (below_then HB8.out hb9)
        clear hb9
        go_wp2_with fail
        refine (time_live b _ w9 HA9.out).mono ?_
        rintro e w10 ⟨rfl, hb10⟩
        have HA10 := Lib.hid (ClAt.ext HA9.out hb10)
        have HC10 := Lib.hid (ClAt.ext HC9.out hb10)
        have HB10 := Lib.hid (below_then HB9.out hb10)
        clear hb10
        have etm : (lnC N h (hi * 4294967296 + lo) (t + x % 576460752303423488)).time = t + x % 576460752303423488 := rfl
        go_wp2_with fail
        refine (time_live b2 _ w10 HC10.out).mono ?_
        rintro e w11 ⟨rfl, hb11⟩
        have HA11 := Lib.hid (ClAt.ext HA10.out hb11)
        have HC11 := Lib.hid (ClAt.ext HC10.out hb11)
        have HB11 := Lib.hid (below_then HB10.out hb11)
        clear hb11
        go_wp2_with fail
        refine (time_live b _ w11 HA11.out).mono ?_
        rintro e w12 ⟨rfl, hb12⟩
        have HA12 := Lib.hid (ClAt.ext HA11.out hb12)
        have HC12 := Lib.hid (ClAt.ext HC11.out hb12)
        have HB12 := Lib.hid (below_then HB11.out hb12)
        clear hb12
        go_wp2_with fail
        refine (l_ln hh hN8 _ _ b2 w12 HC12.out).mono ?_
        rintro e w13 ⟨rfl, hb13⟩
        have HA13 := Lib.hid (ClAt.ext HA12.out hb13)
        have HC13 := Lib.hid (ClAt.ext HC12.out hb13)
        have HB13 := Lib.hid (below_then HB12.out hb13)
        clear hb13
        go_wp2_with fail
        refine (l_ln hh hN8 _ _ b w13 HA13.out).mono ?_
        rintro e w14 ⟨rfl, hb14⟩
        have HA14 := Lib.hid (ClAt.ext HA13.out hb14)
        have HC14 := Lib.hid (ClAt.ext HC13.out hb14)
        have HB14 := Lib.hid (below_then HB13.out hb14)
        clear hb14
        go_wp2_with fail
        clear HA6 HC6 HB6 HA7 HC7 HB7 HA8 HC8 HB8 HA9 HC9 HB9 HA10 HC10 HB10 HA11 HC11 HB11 HA12 HC12 HB12 HA13 HC13 HB13 HA HC HB etm he
        go_hide HQ
        go_loopw [21] (fun xx wx => ∃ y : Nat, y ≤ N ∧ xx = .int .i64 y ∧ Below w14.heap.size w14 wx) (fun xx _ => N - (intOf xx).toNat)
        case atStart => exact ⟨0, by omega, rfl, Below.refl _ _⟩
        case round =>
          obtain ⟨y, hy, rfl, hBx⟩ := hrel
          have HBx := Lib.hid hBx
          clear hBx
          by_cases hyN : y < N
          · have g3 : decide ((y : Int) < (N : Int)) = true := dec_t (by omega)
            have g3' : decide (y < N) = true := dec_t hyN
            have y0 : (y : Int) < 8 := by omega
            by_cases hyh : y = h
            · have g4 : ((y : Int) != (h : Int)) = false := bne_f (by omega)
              have g4' : (y != h) = false := bne_f hyh
              clear hyh
              go_wp2_with fail
              go_roundw
              case measure => simp [intOf]; omega
              case rel => exact ⟨y + 1, by omega, by simp, HBx.out⟩
            · have g4 : ((y : Int) != (h : Int)) = true := bne_t (by omega)
              have g4' : (y != h) = true := bne_t hyh
              have HY : Hid (y ≠ h) := hyh
              clear hyh
              go_wp2_with (go_at_call 30; refine (l_ln2 HY.out hN8 _ _ hsu b _ (ClAt.ext HA14.out HBx.out)).mono ?_; rintro e wz ⟨rfl, hbz⟩)
              go_roundw
              case measure => simp [intOf]; omega
              case rel => exact ⟨y + 1, by omega, by simp, below_then HBx.out hbz⟩
          · obtain rfl : y = N := by omega
            have g3 : decide ((y : Int) < (y : Int)) = false := dec_f (by omega)
            subst HQ
            go_wp2_with fail
            go_roundw
            case measure => simp [intOf]; omega
            case rel => exact ⟨k + 1, t + x % 576460752303423488, by omega, by simp, by omega, HSUM.out, ClAt.ext HA14.out HBx.out, ClAt.ext HC14.out HBx.out, below_then HB14.out HBx.out⟩
      · by_cases h1 : k < len
        · have g1 : decide ((k : Int) < (len : Int)) = true := dec_t (by omega)
          have g1' : decide (k < len) = true := dec_t h1
          have g2 : decide ((k : Int) < 20) = false := dec_f (by have : ¬ k < 20 := fun q => hlt ⟨h1, q⟩; omega)
          clear hlt
          go_wp2_with (first | (go_at_call 32; refine (known05 _).mono ?_; rintro e w6 ⟨rfl, hb6⟩) | (go_at_call 33; refine (c_ln hh hN8 _ _ b _ (ClAt.ext HA.out hb6)).mono ?_; rintro e w7 ⟨rfl, hb7⟩))
          go_ret
          exact ⟨rfl, below_then (below_then HB.out hb6) hb7⟩
        · have g1 : decide ((k : Int) < (len : Int)) = false := dec_f (by omega)
          have g1' : decide (k < len) = false := dec_f h1
          clear hlt
          go_wp2_with (first | (go_at_call 32; refine (known05 _).mono ?_; rintro e w6 ⟨rfl, hb6⟩) | (go_at_call 33; refine (c_ln hh hN8 _ _ b _ (ClAt.ext HA.out hb6)).mono ?_; rintro e w7 ⟨rfl, hb7⟩))
          go_ret
          exact ⟨rfl, below_then (below_then HB.out hb6) hb7⟩
  | false =>
    go_wp2_with fail
    refine (new_good N _ hN1 hN8).mono ?_
    rintro e w1 ⟨b, rfl, hb, hA, hB⟩
    have HA1 := Lib.hid hA
    have HB1 := Lib.hid hB
    clear hA hB
    have HA2 := HA1
    have HB2 := HB1
    go_wp2_with fail
    refine (s_low0 hh hN8 b w1 lo hlo0 hlo1 HA1.out).mono ?_
    rintro e w3 ⟨rfl, hA3, hB3⟩
    have HA3 := Lib.hid hA3
    have HB3 := Lib.hid (But.below HB1.out hB3 hb HB1.out.size)
    clear hA3 hB3
    go_wp2_with fail
    refine (s_high hh hN8 _ (by omega) (by omega) b w3 hi hhi0 hhi1 HA3.out).mono ?_
    rintro e w4 ⟨rfl, hA4, hB4⟩
    have HA4 := Lib.hid hA4
    have HB4 := Lib.hid (But.below HB3.out hB4 hb HB3.out.size)
    clear hA4 hB4
    rw [show hi * 4294967296 + (18446744069414584320 + lo) % 4294967296 = hi * 4294967296 + lo by omega] at HA4
    go_wp2_with fail
    refine (copy_live b _ w4 HA4.out).mono ?_
    rintro e w5 ⟨b2, rfl, hb2, hC5, hb5⟩
    have HA5 := Lib.hid (ClAt.ext HA4.out hb5)
    have HC5 := Lib.hid hC5
    have HB5 := Lib.hid (below_then HB4.out hb5)
    have hbb : b ≠ b2 := by have := RowAt.lt HA4.out; omega
    have hb2W : W.heap.size ≤ b2 := Nat.le_trans HB4.out.size hb2
    clear hC5 hb5 hb2
    go_wp2_with fail
    go_loopw [19] (fun i wr => ∃ (k : Nat) (t : Int), k ≤ 20 ∧ i = .int .i64 k ∧ 0 ≤ t ∧ t ≤ 576460752303423487 * (k : Int) ∧ ClAt wr b (lnC N h (hi * 4294967296 + lo) t) ∧ ClAt wr b2 (lnC N h (hi * 4294967296 + lo) t) ∧ Below W.heap.size W wr) (fun i _ => 20 - (intOf i).toNat)
    case atStart => exact ⟨0, 0, by omega, rfl, by omega, by omega, HA5.out, HC5.out, HB5.out⟩
    case round =>
      clear HA1 HB1 HA2 HB2 HA3 HB3 HA4 HB4 HA5 HC5 HB5
      obtain ⟨k, t, hk, rfl, t0, t1, hA, hC, hB⟩ := hrel
      have HA := Lib.hid hA
      have HC := Lib.hid hC
      have HB := Lib.hid hB
      have tt : t ≤ 11529215046068469740 := by omega
      have hblt := Lib.hid (RowAt.lt hA)
      clear hA hC hB
      by_cases hlt : k < len ∧ k < 20
      · obtain ⟨h1, h2⟩ := hlt
        obtain ⟨q, rfl, hq, hcl⟩ := HZ.out (by omega)
        have hx := HG.out k
        obtain ⟨x, hxe⟩ : ∃ x, zs.getD k 0 = x := ⟨_, rfl⟩
        have c0 := (HB.out.cell (p := q.add k) (by rw [addr_add_block]; exact hq)).trans (hcl k h1)
        rw [hxe] at hx c0
        obtain ⟨x0, x1⟩ := hx
        have g1 : decide ((k : Int) < (len : Int)) = true := dec_t (by omega)
        have g1' : decide (k < len) = true := dec_t h1
        have g2 : decide ((k : Int) < 20) = true := dec_t (by omega)
        have n0 : 0 ≤ x % 576460752303423488 := Int.emod_nonneg _ (by decide)
        have n1 : x % 576460752303423488 ≤ 576460752303423487 := by have := Int.emod_lt_of_pos x (b := 576460752303423488) (by decide); omega
        have hsum : t + x % 576460752303423488 ≤ 576460752303423487 * ((k + 1 : Nat) : Int) := by omega
        have HSUM := Lib.hid hsum
        have hsu : t + x % 576460752303423488 < 18446744073709551615 := by omega
        have hh1 : t + x % 576460752303423488 / 2 ≤ 18446744073709551615 := by omega
        have hh0 : 0 ≤ t + x % 576460752303423488 / 2 := by omega
        have he : Hid (t + x % 576460752303423488 / 2 + (x % 576460752303423488 - x % 576460752303423488 / 2) = t + x % 576460752303423488) := by show _ = _; omega
        clear hxe hcl hq hsum t1
        go_wp2_with fail
        refine (t_ln hN8 _ t d0 d1 t0 b wr _ n0 (by omega) HA.out).mono ?_
        rintro e w6 ⟨rfl, hA6, hB6⟩
        have HA6 := Lib.hid hA6
        have HC6 := Lib.hid (ClAt.but HC.out hB6 hbb.symm)
        have HB6 := Lib.hid (But.below HB.out hB6 hb HB.out.size)
        clear hA6 hB6 c0
        go_wp2_with fail
        refine (t_ln hN8 _ t d0 d1 t0 b2 w6 _ (by omega) hh1 HC6.out).mono ?_
        rintro e w7 ⟨rfl, hC7, hB7⟩
        have HC7 := Lib.hid hC7
        have HA7 := Lib.hid (ClAt.but HA6.out hB7 hbb)
        have HB7 := Lib.hid (But.below HB6.out hB7 hb2W HB6.out.size)
        clear hC7 hB7
        go_wp2_with fail
        refine (t_ln hN8 _ _ d0 d1 hh0 b2 w7 _ (by omega) (by omega) HC7.out).mono ?_
        rintro e w8 ⟨rfl, hC8, hB8⟩
        rw [he.out] at hC8
        have HC8 := Lib.hid hC8
        have HA8 := Lib.hid (ClAt.but HA7.out hB8 hbb)
        have HB8 := Lib.hid (But.below HB7.out hB8 hb2W HB7.out.size)
        clear hC8 hB8
        go_wp2_with fail
        refine (l_ln hh hN8 _ _ b w8 HA8.out).mono ?_
        rintro e w9 ⟨rfl, hb9⟩
        have HA9 := Lib.hid (ClAt.ext HA8.out hb9)
        have HC9 := Lib.hid (ClAt.ext HC8.out hb9)
        have HB9 := Lib.hid (below_then HB8.out hb9)
        clear hb9
        go_wp2_with fail
        refine (time_live b _ w9 HA9.out).mono ?_
        rintro e w10 ⟨rfl, hb10⟩
        have HA10 := Lib.hid (ClAt.ext HA9.out hb10)
        have HC10 := Lib.hid (ClAt.ext HC9.out hb10)
        have HB10 := Lib.hid (below_then HB9.out hb10)
        clear hb10
        have etm : (lnC N h (hi * 4294967296 + lo) (t + x % 576460752303423488)).time = t + x % 576460752303423488 := rfl
        go_wp2_with fail
        refine (time_live b2 _ w10 HC10.out).mono ?_
        rintro e w11 ⟨rfl, hb11⟩
        have HA11 := Lib.hid (ClAt.ext HA10.out hb11)
        have HC11 := Lib.hid (ClAt.ext HC10.out hb11)
        have HB11 := Lib.hid (below_then HB10.out hb11)
        clear hb11
        go_wp2_with fail
        refine (time_live b _ w11 HA11.out).mono ?_
        rintro e w12 ⟨rfl, hb12⟩
        have HA12 := Lib.hid (ClAt.ext HA11.out hb12)
        have HC12 := Lib.hid (ClAt.ext HC11.out hb12)
        have HB12 := Lib.hid (below_then HB11.out hb12)
        clear hb12
        go_wp2_with fail
        refine (l_ln hh hN8 _ _ b2 w12 HC12.out).mono ?_
        rintro e w13 ⟨rfl, hb13⟩
        have HA13 := Lib.hid (ClAt.ext HA12.out hb13)
        have HC13 := Lib.hid (ClAt.ext HC12.out hb13)
        have HB13 := Lib.hid (below_then HB12.out hb13)
        clear hb13
        go_wp2_with fail
        refine (l_ln hh hN8 _ _ b w13 HA13.out).mono ?_
        rintro e w14 ⟨rfl, hb14⟩
        have HA14 := Lib.hid (ClAt.ext HA13.out hb14)
        have HC14 := Lib.hid (ClAt.ext HC13.out hb14)
        have HB14 := Lib.hid (below_then HB13.out hb14)
        clear hb14
        go_wp2_with fail
        clear HA6 HC6 HB6 HA7 HC7 HB7 HA8 HC8 HB8 HA9 HC9 HB9 HA10 HC10 HB10 HA11 HC11 HB11 HA12 HC12 HB12 HA13 HC13 HB13 HA HC HB etm he
        go_hide HQ
        go_loopw [21] (fun xx wx => ∃ y : Nat, y ≤ N ∧ xx = .int .i64 y ∧ Below w14.heap.size w14 wx) (fun xx _ => N - (intOf xx).toNat)
        case atStart => exact ⟨0, by omega, rfl, Below.refl _ _⟩
        case round =>
          obtain ⟨y, hy, rfl, hBx⟩ := hrel
          have HBx := Lib.hid hBx
          clear hBx
          by_cases hyN : y < N
          · have g3 : decide ((y : Int) < (N : Int)) = true := dec_t (by omega)
            have g3' : decide (y < N) = true := dec_t hyN
            have y0 : (y : Int) < 8 := by omega
            by_cases hyh : y = h
            · have g4 : ((y : Int) != (h : Int)) = false := bne_f (by omega)
              have g4' : (y != h) = false := bne_f hyh
              clear hyh
              go_wp2_with fail
              go_roundw
              case measure => simp [intOf]; omega
              case rel => exact ⟨y + 1, by omega, by simp, HBx.out⟩
            · have g4 : ((y : Int) != (h : Int)) = true := bne_t (by omega)
              have g4' : (y != h) = true := bne_t hyh
              have HY : Hid (y ≠ h) := hyh
              clear hyh
              go_wp2_with (go_at_call 30; refine (l_ln2 HY.out hN8 _ _ hsu b _ (ClAt.ext HA14.out HBx.out)).mono ?_; rintro e wz ⟨rfl, hbz⟩)
              go_roundw
              case measure => simp [intOf]; omega
              case rel => exact ⟨y + 1, by omega, by simp, below_then HBx.out hbz⟩
          · obtain rfl : y = N := by omega
            have g3 : decide ((y : Int) < (y : Int)) = false := dec_f (by omega)
            subst HQ
            go_wp2_with fail
            go_roundw
            case measure => simp [intOf]; omega
            case rel => exact ⟨k + 1, t + x % 576460752303423488, by omega, by simp, by omega, HSUM.out, ClAt.ext HA14.out HBx.out, ClAt.ext HC14.out HBx.out, below_then HB14.out HBx.out⟩
      · by_cases h1 : k < len
        · have g1 : decide ((k : Int) < (len : Int)) = true := dec_t (by omega)
          have g1' : decide (k < len) = true := dec_t h1
          have g2 : decide ((k : Int) < 20) = false := dec_f (by have : ¬ k < 20 := fun q => hlt ⟨h1, q⟩; omega)
          clear hlt
          go_wp2_with (first | (go_at_call 32; refine (known05 _).mono ?_; rintro e w6 ⟨rfl, hb6⟩) | (go_at_call 33; refine (c_ln hh hN8 _ _ b _ (ClAt.ext HA.out hb6)).mono ?_; rintro e w7 ⟨rfl, hb7⟩))
          go_ret
          exact ⟨rfl, below_then (below_then HB.out hb6) hb7⟩
        · have g1 : decide ((k : Int) < (len : Int)) = false := dec_f (by omega)
          have g1' : decide (k < len) = false := dec_f h1
          clear hlt
          go_wp2_with (first | (go_at_call 32; refine (known05 _).mono ?_; rintro e w6 ⟨rfl, hb6⟩) | (go_at_call 33; refine (c_ln hh hN8 _ _ b _ (ClAt.ext HA.out hb6)).mono ?_; rintro e w7 ⟨rfl, hb7⟩))
          go_ret
          exact ⟨rfl, below_then (below_then HB.out hb6) hb7⟩
end Go.Proofs.Ytaihebdjhbnhoaa
