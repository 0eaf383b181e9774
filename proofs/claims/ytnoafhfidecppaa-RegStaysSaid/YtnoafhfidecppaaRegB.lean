/- The document's register: bit, Store, Turn, Only: what each call comes to. -/
import Derived.Test.YtnoafhfidecppaaRegA
namespace Go.Proofs.Ytnoafhfidecppaa
open Go.RowKit
set_option linter.unusedVariables false
set_option linter.unusedSimpArgs false
set_option maxHeartbeats 4000000 in
set_option maxRecDepth 100000 in
theorem bit_any (n i : Int) (w : World) (h0 : 0 ≤ n) (h1 : n ≤ 4294967295) (hi : i ≤ 9223372036854775807) :
    Calls Try.prog 35 #[.int .u32 n, .int .i64 i] w fun e w' => e = .returned (.bool (bitI n i.toNat)) ∧ Below w.heap.size w w' := by
  go_enter Try.func35, Try.ntmps35
  go_wp2_with fail
  refine (bit01_any _ _ _ h0 (by omega) hi).mono ?_
  rintro e wr ⟨rfl, hbr⟩
  go_wp2
  go_ret
  exact ⟨rfl, hbr⟩
theorem pow_small (k : Nat) (h : k < 32) : (1 : Int) ≤ 2 ^ k ∧ (2 : Int) ^ k ≤ 2147483648 := by
  have h1 := Nat.one_le_two_pow (n := k)
  have h2 := Nat.pow_le_pow_right (n := 2) (by decide) (show k ≤ 31 by omega)
  have h3 : (2 : Nat) ^ 31 = 2147483648 := by decide
  rw [h3] at h2
  have e : ((2 ^ k : Nat) : Int) = 2 ^ k := by simp
  omega
theorem wrap_unit (k : Nat) (h : k < 32) : IntKind.u32.wrap (2 ^ k) = 2 ^ k := by
  have := pow_small k h
  rw [IntKind.wrap_u32]; omega
theorem wrap_unit2 (k : Nat) : IntKind.u32.wrap (2 * 2 ^ k) = IntKind.u32.wrap (2 ^ (k + 1)) := by
  rw [Int.pow_succ, Int.mul_comm]
def storeF (a x c v : Int) (i : Nat) : Bool := if (bitI c i && bitI v i) = true then false else if bitI x i = true then bitI v i else bitI a i
def turnF (a p q : Int) (i : Nat) : Bool := (bitI a i || bitI p i) && !bitI q i
set_option maxHeartbeats 4000000 in
set_option maxRecDepth 100000 in
theorem store02_aux (Z : Nat → Bool) (a r x c v : Int) (HZ : Hid (Z = storeF a x c v)) (w : World) (ha0 : 0 ≤ a) (ha1 : a ≤ 4294967295) (hx0 : 0 ≤ x) (hx1 : x ≤ 4294967295) (hc0 : 0 ≤ c) (hc1 : c ≤ 4294967295) (hv0 : 0 ≤ v) (hv1 : v ≤ 4294967295) :
    Calls Try.prog 21 #[.agg #[.int .u32 a, .int .u32 r, .int .u32 x, .int .u32 c], .int .u32 v] w fun e w' => e = .returned (.agg #[.int .u32 (bs Z 32), .int .u32 r, .int .u32 x, .int .u32 c]) ∧ Below w.heap.size w w' := by
  go_enter Try.func21, Try.ntmps21
  go_wp2_with fail
  refine wp_box2 ?_
  intro W hB hb1 hb2 _
  obtain ⟨hk1, hf1⟩ := Ext.cells hb1
  obtain ⟨hk2, hf2⟩ := Ext.cells hb2
  go_loopg [5, 6, 7] 32 (fun g out unit i wr => ∃ (k : Nat) (y : Ext W.heap.size W), k + g = 32 ∧ out = .int .u32 (bs Z k) ∧ unit = .int .u32 (IntKind.u32.wrap (2 ^ k)) ∧ i = .int .i64 k ∧ wr = y.world)
  case atStart => exact ⟨0, ⟨W, Below.refl _ _⟩, by omega, rfl, rfl, rfl, rfl⟩
  case round =>
    obtain ⟨k, y, hk, rfl, rfl, rfl, rfl⟩ := hrel
    obtain ⟨z0, z1⟩ := bs_range Z k
    by_cases hlt : k < 32
    · obtain ⟨p0, p1⟩ := pow_small k hlt
      have eu := wrap_unit k hlt
      cases gk with
      | zero => omega
      | succ g =>
      rcases Bool.eq_false_or_eq_true (bitI x k) with hx | hx <;> rcases Bool.eq_false_or_eq_true (bitI v k) with hv | hv <;> rcases Bool.eq_false_or_eq_true (bitI c k) with hc | hc <;> rcases Bool.eq_false_or_eq_true (bitI a k) with ha | ha
      all_goals
        go_wp2_with (first | (go_at_call 35; refine (bit_any _ _ _ (by omega) (by omega) (by omega)).mono ?_; rintro e wr ⟨rfl, hbr⟩; obtain ⟨y, rfl⟩ := Ext.step _ hbr; clear hbr))
        go_roundg g
        case measure => omega
        case rel => exact ⟨k + 1, _, by omega, by rw [bs, HZ.out, storeF, hx, hv, hc, ha]; simp, by rw [← wrap_unit2, IntKind.wrap_u32], by go_num, rfl⟩
    · obtain rfl : k = 32 := by omega
      go_wp2
      refine bodyPost_ret (v := .agg #[.int .u32 (bs Z 32), .int .u32 r, .int .u32 x, .int .u32 c]) (by simp [results, Try.results21, go_sem, hk1, hk2]) rfl ⟨rfl, ?_⟩
      repeat (first | exact below_then hB y.ok | refine below_set ?_ (by simp) _)
theorem store02_any (a r x c v : Int) (w : World) (ha0 : 0 ≤ a) (ha1 : a ≤ 4294967295) (hx0 : 0 ≤ x) (hx1 : x ≤ 4294967295) (hc0 : 0 ≤ c) (hc1 : c ≤ 4294967295) (hv0 : 0 ≤ v) (hv1 : v ≤ 4294967295) :
    Calls Try.prog 21 #[.agg #[.int .u32 a, .int .u32 r, .int .u32 x, .int .u32 c], .int .u32 v] w fun e w' => e = .returned (.agg #[.int .u32 (bs (storeF a x c v) 32), .int .u32 r, .int .u32 x, .int .u32 c]) ∧ Below w.heap.size w w' :=
  store02_aux _ a r x c v rfl w ha0 ha1 hx0 hx1 hc0 hc1 hv0 hv1
set_option maxHeartbeats 4000000 in
set_option maxRecDepth 100000 in
theorem turn02_aux (Z : Nat → Bool) (a r x c p q : Int) (HZ : Hid (Z = turnF a p q)) (w : World) (ha0 : 0 ≤ a) (ha1 : a ≤ 4294967295) (hp0 : 0 ≤ p) (hp1 : p ≤ 4294967295) (hq0 : 0 ≤ q) (hq1 : q ≤ 4294967295) :
    Calls Try.prog 23 #[.agg #[.int .u32 a, .int .u32 r, .int .u32 x, .int .u32 c], .int .u32 p, .int .u32 q] w fun e w' => e = .returned (.agg #[.int .u32 (bs Z 32), .int .u32 r, .int .u32 x, .int .u32 c]) ∧ Below w.heap.size w w' := by
  go_enter Try.func23, Try.ntmps23
  go_wp2_with fail
  refine wp_box2 ?_
  intro W hB hb1 hb2 _
  obtain ⟨hk1, hf1⟩ := Ext.cells hb1
  obtain ⟨hk2, hf2⟩ := Ext.cells hb2
  go_loopg [7, 8, 9] 32 (fun g out unit i wr => ∃ (k : Nat) (y : Ext W.heap.size W), k + g = 32 ∧ out = .int .u32 (bs Z k) ∧ unit = .int .u32 (IntKind.u32.wrap (2 ^ k)) ∧ i = .int .i64 k ∧ wr = y.world)
  case atStart => exact ⟨0, ⟨W, Below.refl _ _⟩, by omega, rfl, rfl, rfl, rfl⟩
  case round =>
    obtain ⟨k, y, hk, rfl, rfl, rfl, rfl⟩ := hrel
    obtain ⟨z0, z1⟩ := bs_range Z k
    by_cases hlt : k < 32
    · obtain ⟨p0, p1⟩ := pow_small k hlt
      have eu := wrap_unit k hlt
      cases gk with
      | zero => omega
      | succ g =>
      rcases Bool.eq_false_or_eq_true (bitI a k) with ha | ha <;> rcases Bool.eq_false_or_eq_true (bitI p k) with hp | hp <;> rcases Bool.eq_false_or_eq_true (bitI q k) with hq | hq
      all_goals
        go_wp2_with (first | (go_at_call 35; refine (bit_any _ _ _ (by omega) (by omega) (by omega)).mono ?_; rintro e wr ⟨rfl, hbr⟩; obtain ⟨y, rfl⟩ := Ext.step _ hbr; clear hbr))
        go_roundg g
        case measure => omega
        case rel => exact ⟨k + 1, _, by omega, by rw [bs, HZ.out, turnF, hp, hq, ha]; simp, by rw [← wrap_unit2, IntKind.wrap_u32], by go_num, rfl⟩
    · obtain rfl : k = 32 := by omega
      go_wp2
      refine bodyPost_ret (v := .agg #[.int .u32 (bs Z 32), .int .u32 r, .int .u32 x, .int .u32 c]) (by simp [results, Try.results23, go_sem, hk1, hk2]) rfl ⟨rfl, ?_⟩
      repeat (first | exact below_then hB y.ok | refine below_set ?_ (by simp) _)
theorem turn02_any (a r x c p q : Int) (w : World) (ha0 : 0 ≤ a) (ha1 : a ≤ 4294967295) (hp0 : 0 ≤ p) (hp1 : p ≤ 4294967295) (hq0 : 0 ≤ q) (hq1 : q ≤ 4294967295) :
    Calls Try.prog 23 #[.agg #[.int .u32 a, .int .u32 r, .int .u32 x, .int .u32 c], .int .u32 p, .int .u32 q] w fun e w' => e = .returned (.agg #[.int .u32 (bs (turnF a p q) 32), .int .u32 r, .int .u32 x, .int .u32 c]) ∧ Below w.heap.size w w' :=
  turn02_aux _ a r x c p q rfl w ha0 ha1 hp0 hp1 hq0 hq1
set_option maxHeartbeats 400000 in
theorem only02_any (a r x c : Int) (w : World) :
    Calls Try.prog 27 #[.agg #[.int .u32 a, .int .u32 r, .int .u32 x, .int .u32 c]] w fun e w' => e = .returned (.bool ((x == 0) && (c == 0))) ∧ Below w.heap.size w w' := by
  rcases Bool.eq_false_or_eq_true (x == 0) with h | h
  all_goals
    go_enter Try.func27, Try.ntmps27
    go_wp2
    go_ret
    exact ⟨ret_bool (by simp [h]), below_new (Below.refl _ _) _⟩
set_option maxHeartbeats 4000000 in
set_option maxRecDepth 100000 in
theorem regNew_any (w : World) : Calls Try.prog 34 #[] w fun e w' => (∃ g, e = .returned (.pointer (some ⟨g, 0, none⟩))) ∧ Below w.heap.size w w' := by
  have hmm := @run_makeMap Try.prog
  go_enter Try.func34, Try.ntmps34
  go_wp2
  go_ret
  exact ⟨⟨_, rfl⟩, below_new (below_new (Below.refl _ _) _) _⟩
set_option maxHeartbeats 4000000 in
set_option maxRecDepth 100000 in
theorem known02 (w : World) : Calls Try.prog 19 #[] w fun e w' => e = .returned (.bool true) ∧ Below w.heap.size w w' := by
  have s1 : storeI 12 3 4 7 = 11 := by decide
  have s2 : bits .or .u32 0 0 = 0 := by decide
  go_enter Try.func19, Try.ntmps19
  refine wp_start ?_
  intro x
  go_wp2_with fail
  refine (store_any _ _ _ _ _ _).mono ?_
  rintro e wr ⟨rfl, hbr⟩
  obtain ⟨y, rfl⟩ := x.step hbr
  go_wp2_with fail
  refine calls_box ?_
  intro W hB hb _
  refine (regNew_any _).mono ?_
  rintro e wr2 ⟨⟨g, rfl⟩, hbr2⟩
  obtain ⟨z, rfl⟩ := Ext.of hbr2
  go_wp2_with (first | (go_at_call 26; refine (only_any _ _ _ _ _).mono ?_; rintro e wr ⟨rfl, hbr⟩; obtain ⟨y, rfl⟩ := Ext.step _ hbr; clear hbr))
  go_ret
  exact ⟨rfl, below_then (below_then (Ext.ok _) hB) (Ext.ok _)⟩
end Go.Proofs.Ytnoafhfidecppaa
