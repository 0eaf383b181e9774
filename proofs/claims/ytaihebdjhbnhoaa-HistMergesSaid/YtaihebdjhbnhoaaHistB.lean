/- A histogram: what each of its parts comes to. -/
import Derived.Test.YtaihebdjhbnhoaaHistA
import Derived.Test.YtaihebdjhbnhoaaTail
import Derived.Laws.Externs
import Derived.RegionTactic
import Derived.Deep.Cut
import Derived.Deep.RegionWith
namespace Go.Proofs.Ytaihebdjhbnhoaa
open Go.RowKit
set_option linter.unusedVariables false
set_option linter.unusedSimpArgs false
def addI (a b : Int) : Int := if a + b ≤ 18446744073709551615 then a + b else 18446744073709551615
def subI (a b : Int) : Int := if a < b then 0 else a - b
theorem add64_run (x y s c : Int) (x0 : 0 ≤ x) (y0 : 0 ≤ y) (hs : (x + y) % 18446744073709551616 = s) (hc : (x + y) / 18446744073709551616 = c) (w : World) :
    (callFunc 68 #[.int .u64 x, .int .u64 y, .int .u64 0]).run Try.prog w = .ok (.value (.tuple #[.int .u64 s, .int .u64 c])) w := by
  rw [run_callFunc_extern Try.func68 (by kernel_rfl) (by kernel_rfl) (by kernel_rfl) (e := add64Entry) (by kernel_rfl), run_add64 x y 0 x0 y0 (by omega) (by omega)]
  simp only [Result.andThen, Int.add_zero, hs, hc]
set_option maxHeartbeats 4000000 in
set_option maxRecDepth 100000 in
theorem add_any (a b : Int) (w : World) (h0 : 0 ≤ a) (h1 : a ≤ 18446744073709551615) (k0 : 0 ≤ b) (k1 : b ≤ 18446744073709551615) :
    Calls Try.prog 55 #[.int .u64 a, .int .u64 b] w fun e w' => e = .returned (.int .u64 (addI a b)) ∧ Below w.heap.size w w' := by
  by_cases h : a + b ≤ 18446744073709551615
  · have e1 : a + b = addI a b := by rw [addI, if_pos h]
    have E1 := Lib.hid e1
    clear e1
    have ha := fun w => add64_run a b (a + b) 0 h0 k0 (by omega) (by omega) w
    go_enter Try.func55, Try.ntmps55
    go_wp2_with (simp only [ha])
    go_ret
    exact ⟨ret_int E1.out, Below.refl _ _⟩
  · have e1 : 18446744073709551615 = addI a b := by rw [addI, if_neg h]
    have E1 := Lib.hid e1
    clear e1
    have ha := fun w => add64_run a b (a + b - 18446744073709551616) 1 h0 k0 (by omega) (by omega) w
    go_enter Try.func55, Try.ntmps55
    go_wp2_with (simp only [ha])
    go_ret
    exact ⟨ret_int E1.out, Below.refl _ _⟩

structure Sums where
  count : Int
  sum : Int
  least : Int
  most : Int
structure Sums.ok (s : Sums) : Prop where
  c0 : 0 ≤ s.count
  s0 : 0 ≤ s.sum
  s1 : s.sum ≤ 18446744073709551615
  l0 : 0 ≤ s.least
  l1 : s.least ≤ 18446744073709551615
  m0 : 0 ≤ s.most
  m1 : s.most ≤ 18446744073709551615
def Sums.cells (s : Sums) : Array Value := #[.int .i64 s.count, .int .u64 s.sum, .int .u64 s.least, .int .u64 s.most]
structure Hs where
  all : Sums
  n : List Int
def Hs.cells (h : Hs) : Array Value := ([Value.int .i64 h.all.count, Value.int .u64 h.all.sum, Value.int .u64 h.all.least, Value.int .u64 h.all.most] ++ h.n.map (Value.int .i64)).toArray
def HistAt (W : World) (b : Nat) (h : Hs) : Prop := RowAt W b h.cells 76
def Hs.none : Hs := ⟨⟨0, 0, 0, 0⟩, List.replicate 65 0⟩
set_option maxHeartbeats 4000000 in
set_option maxRecDepth 100000 in
theorem new_any (w : World) :
    Calls Try.prog 14 #[] w fun e w' => ∃ b, e = .returned (.pointer (some ⟨b, 0, none⟩)) ∧ w.heap.size ≤ b ∧ HistAt w' b Hs.none ∧ Below w.heap.size w w' := by
  go_enter Try.func14, Try.ntmps14
  go_wp2
  go_ret
  exact ⟨w.heap.size, rfl, Nat.le_refl _, RowAt.new _ _ _, by repeat (first | exact Below.refl _ _ | refine below_set ?_ (by simp) _ | refine below_new ?_ _ | refine below_drewN ?_ _ | refine Below.drew ?_)⟩
def Sums.join (s o : Sums) : Sums := if o.count = 0 then s else if s.count = 0 then o else ⟨s.count + o.count, addI s.sum o.sum, min s.least o.least, max s.most o.most⟩
set_option maxHeartbeats 4000000 in
set_option maxRecDepth 100000 in
theorem with_any (sc ss sl sm oc os ol om : Int) (w : World) (c0 : 0 ≤ sc) (c1 : 0 ≤ oc) (hc : sc + oc ≤ 9223372036854775807) (s0 : 0 ≤ ss) (s1 : ss ≤ 18446744073709551615) (o0 : 0 ≤ os) (o1 : os ≤ 18446744073709551615) :
    Calls Try.prog 46 #[.agg #[.int .i64 sc, .int .u64 ss, .int .u64 sl, .int .u64 sm], .agg #[.int .i64 oc, .int .u64 os, .int .u64 ol, .int .u64 om]] w fun e w' => e = .returned (.agg (Sums.join ⟨sc, ss, sl, sm⟩ ⟨oc, os, ol, om⟩).cells) ∧ Below w.heap.size w w' := by
  by_cases h1 : oc = 0
  · rw [Sums.join, if_pos h1]
    have g1 : (oc == 0) = true := by simpa using h1
    clear h1
    go_enter Try.func46, Try.ntmps46
    go_wp2_with fail
    refine bodyPost_ret (v := .agg #[.int .i64 sc, .int .u64 ss, .int .u64 sl, .int .u64 sm]) (by simp [results, Try.results46, go_sem]) rfl ?_
    exact ⟨rfl, by
                   iterate 3 refine below_new ?_ _
                   exact Below.refl _ _⟩
  · by_cases h2 : sc = 0
    · rw [Sums.join, if_neg h1, if_pos h2]
      have g1 : (oc == 0) = false := by simpa using h1
      have g2 : (sc == 0) = true := by simpa using h2
      clear h1 h2
      go_enter Try.func46, Try.ntmps46
      go_wp2_with fail
      refine bodyPost_ret (v := .agg #[.int .i64 oc, .int .u64 os, .int .u64 ol, .int .u64 om]) (by simp [results, Try.results46, go_sem]) rfl ?_
      exact ⟨rfl, by
                     iterate 3 refine below_new ?_ _
                     exact Below.refl _ _⟩
    · rw [Sums.join, if_neg h1, if_neg h2]
      have g1 : (oc == 0) = false := by simpa using h1
      have g2 : (sc == 0) = false := by simpa using h2
      have gc : wrap64 (sc + oc) = sc + oc := by unfold wrap64; omega
      clear h1 h2
      go_enter Try.func46, Try.ntmps46
      go_upto_region 5 with (fail)
      refine wp_box3 ?_
      intro W hB b0 b1 b2 hW
      have R0 : RowAt W w.heap.size #[.int .i64 sc, .int .u64 ss, .int .u64 sl, .int .u64 sm] 73 := b0
      have R1 : RowAt W (w.heap.size + 1) #[.int .i64 oc, .int .u64 os, .int .u64 ol, .int .u64 om] 73 := b1
      have R2 : RowAt W (w.heap.size + 1 + 1) #[.int .i64 0, .int .u64 0, .int .u64 0, .int .u64 0] 73 := b2
      clear b0 b1 b2
      obtain ⟨hk0, hf0⟩ := Ext.cells R0
      obtain ⟨hk1, hf1⟩ := Ext.cells R1
      obtain ⟨hk2, hf2⟩ := Ext.cells R2
      refine wp_start (w := W) ?_
      intro x
      refine wp_region_ext_tail _ 21 (by kernel_rfl) (by kernel_rfl) (by kernel_rfl) ?_
      simp only [List.take_succ_cons, List.take_zero, List.drop_succ_cons, List.drop_zero]
      repeat (go_big_quiet_step (first | (go_at_call 55; exact Ext.call (add_any _ _ _ s0 s1 o0 o1))))
      refine wpQuiet_nil ?_
      rintro _ ⟨y, rfl⟩
      go_wp2_with fail
      have R3 := ((((RowAt.ext R2 y.ok).set 0 (.int .i64 (sc + oc))).set 1 (.int .u64 (addI ss os))).set 2 (.int .u64 (min sl ol))).set 3 (.int .u64 (max sm om))
      have e0 := R3.cell (i := 0) rfl
      have e1 := R3.cell (i := 1) rfl
      have e2 := R3.cell (i := 2) rfl
      have e3 := R3.cell (i := 3) rfl
      refine bodyPost_ret (v := .agg #[.int .i64 (sc + oc), .int .u64 (addI ss os), .int .u64 (min sl ol), .int .u64 (max sm om)]) (by simp [results, Try.results46, go_sem, e0, e1, e2, e3]) rfl ?_
      exact ⟨rfl, by iterate 4 refine below_set ?_ (by first | omega | (dsimp only; omega)) _
                     exact below_then hB y.ok⟩
end Go.Proofs.Ytaihebdjhbnhoaa
