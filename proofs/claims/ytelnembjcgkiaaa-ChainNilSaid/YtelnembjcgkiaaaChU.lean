/- Nil chains have no things: ChainNil. -/
import Derived.Test.YtelnembjcgkiaaaChT
namespace Go.Proofs.Ytelnembjcgkiaaa
open Go.RowKit Go.Shelf
set_option linter.unusedVariables false
set_option linter.unusedSimpArgs false
attribute [local go_sem] Oper.semAt_some
set_option maxHeartbeats 8000000 in
set_option maxRecDepth 100000 in
/-- slices.AppendSeq over any iterator of ints that keeps its word where what lay ahead lies as it lay. -/
theorem appseq_gen (gf : Nat) (lb : Array Value) (hgf : ∀ args w, (callFunc gf args).run Try.prog w = .ok (.enter gf args) w) (F : List Nat) (hF : F.length ≤ 4096) (w : World)
    (hseq : ∀ (I : List Nat → World → Prop) (B0 : Nat), (∀ pre W, I pre W → Below w.heap.size w W) → SeqAt Fence.wide 4 Try.prog gf lb (fun x : Nat => #[.int .i64 (x : Int)]) I (fun xs => xs = F) F.length B0) :
    Calls Try.prog 51 #[.slice none 0 0, .func (.func gf) #[] lb] w fun e w' => ∃ v, e = .returned v ∧ w'.ownsRow w.heap.size 3 1 v F.length (ic F) ∧ Below w.heap.size w w' := by
  obtain ⟨i0, hi, hz0, hz1, hz2⟩ := info_parts info_i
  have HS := Lib.hid hseq
  clear hseq
  refine (callsIn_wide (n := 5)).1 ?_
  refine callsIn_of_wp_marks Try.func51 rfl trivial ?_ rfl
  simp only [Try.ntmps51, List.size_toArray, List.length_cons, List.length_nil, Nat.reduceAdd, Nat.reduceSub, Array.replicate_succ, Array.replicate_zero, List.push_toArray, List.append_toArray, List.nil_append, List.cons_append]
  gi_wp2
  have bO := Boxed.new w 40 (.slice none 0 0)
  have hB0 : Below w.heap.size w (w.alloc (.cells #[.slice none 0 0] 40)) := below_new (Below.refl _ _) _
  refine wpIn_range_at rfl (by omega) (gf := gf) (lb := lb) rfl trivial hgf (encs := fun x : Nat => #[.int .i64 (x : Int)]) (S := fun xs => xs = F) (N := F.length) (fun _ => rfl)
    (fun pre W => (∃ v, Boxed W w.heap.size 40 v ∧ W.ownsRow w.heap.size 3 1 v pre.length (ic pre) ∧ True) ∧ Below w.heap.size w W)
    (OwnFrom.and (Own.from (holdsRow_own w.heap.size w.heap.size 40 3 1 (fun pre : List Nat => pre.length) ic (fun _ _ => True)) _) (ownFrom_below (Nat.le_refl _) (by simp)))
    ⟨⟨_, bO, ⟨by simp [ic], .inl ⟨rfl, rfl⟩⟩, trivial⟩, hB0⟩
    (fun x => { tmps := #[.slice none 0 0, .func (.func gf) #[] lb, .pointer (some ⟨w.heap.size, 0, none⟩), undef, .slice none 0 0, .int .i64 (x : Int), .func (.func gf) #[] lb, .int .i64 (x : Int), undef, undef, undef, undef, undef], defers := [] })
    (HS.out _ _ (fun pre W h => h.2))
    ?assign ?body ?done
  case assign =>
    intro l x W K hK
    gi_wp2
    exact hK
  case body =>
    rintro l pre x W ⟨⟨v, hv, hrow, -⟩, hBw⟩ hlt
    have hc := hv.cell
    have hf := hv.frozen
    gi_wp2_with (gi_at_builtin; refine wpListIn_append_own _ rfl _ _ 40 rfl w.heap.size 3 i0 (.int .i64 0) 1 8 Try.underlying40 hi hz0 hz1 hz2 rfl (by decide) _ _ _ rfl (hrow.alloc _) ⟨W.heap.size, 0, none⟩ 1 1 [.int .i64 (x : Int)] rfl rfl (cell_one_new _ _ _) (by simp [Value.oneCell']) (have h5 : (5000 : Nat) ≤ maxLen := (by unfold maxLen; omega); by omega) (by omega) (by have := hBw.size; simp; omega) ?_; intro v' w1 hown' hgrow _; obtain ⟨g', cap', rfl⟩ := ownsRow_succ hown'; obtain ⟨hv1, hv2, hr2, hk2, hb2⟩ := hv.appended (by decide) hrow hBw.size (Nat.le_refl _) hown' hgrow; have hc1 := hv1.cell; have hf1 := hv1.frozen)
    exact ⟨hk2.from _, ⟨_, hv2, by rw [ic_snoc]; exact hr2⟩, hBw.trans hb2⟩
  case done =>
    rintro D ys W hD hy ⟨⟨v, hv, hrow, -⟩, hBw⟩ hK
    subst hy
    have hc := hv.cell
    have hf := hv.frozen
    gi_wp2
    refine ⟨by simp, .inl ⟨_, _, rfl, run_takeDeferred hK, ?_⟩⟩
    exact ⟨_, results_tmp rfl _ _ _, v, rfl, ownsRow_putObj hrow _ hK rfl, hBw.trans (belowK_b (w := w) (Nat.le_refl _) W D _ _ (by simp at hD; omega) hK rfl rfl)⟩
set_option maxHeartbeats 8000000 in
set_option maxRecDepth 100000 in
theorem collect_gen (gf : Nat) (lb : Array Value) (hgf : ∀ args w, (callFunc gf args).run Try.prog w = .ok (.enter gf args) w) (F : List Nat) (hF : F.length ≤ 4096) (w : World)
    (hseq : ∀ (I : List Nat → World → Prop) (B0 : Nat), (∀ pre W, I pre W → Below w.heap.size w W) → SeqAt Fence.wide 4 Try.prog gf lb (fun x : Nat => #[.int .i64 (x : Int)]) I (fun xs => xs = F) F.length B0) :
    Calls Try.prog 40 #[.func (.func gf) #[] lb] w fun e w' => ∃ v, e = .returned v ∧ w'.ownsRow w.heap.size 3 1 v F.length (ic F) ∧ Below w.heap.size w w' := by
  have HA := Lib.hid (appseq_gen gf lb hgf F hF w hseq)
  clear hseq
  go_enter Try.func40, Try.ntmps40
  go_wp2_with (go_at_call 51; refine HA.out.mono ?_; rintro e w1 ⟨v, rfl, hown, hb⟩)
  go_ret
  exact ⟨v, rfl, hown, hb⟩
namespace Nl
set_option maxHeartbeats 8000000 in
set_option maxRecDepth 100000 in
theorem is_nil (k i : Int) (w : World) :
    Calls Try.prog 45 #[.pointer none, .int .i64 i] w fun e w' => e = .returned (.bool false) ∧ w = w' := by
  go_enter Try.func45, Try.ntmps45
  go_wp2_with fail
  go_ret
  exact ⟨rfl, rfl⟩
set_option maxHeartbeats 8000000 in
set_option maxRecDepth 100000 in
theorem push_nil (k i : Int) (w : World) :
    Calls Try.prog 26 #[.pointer none, .int .i64 k, .int .i64 i] w fun e w' => e = .returned (.bool false) ∧ Below w.heap.size w w' := by
  go_enter Try.func26, Try.ntmps26
  go_wp2_with (go_at_call 45; refine (is_nil 0 i _).mono ?_; rintro e w1 ⟨rfl, rfl⟩)
  go_ret
  exact ⟨rfl, by repeat (first | exact Below.refl _ _ | refine below_new ?_ _)⟩
set_option maxHeartbeats 8000000 in
set_option maxRecDepth 100000 in
theorem remove_nil (k i : Int) (w : World) :
    Calls Try.prog 27 #[.pointer none, .int .i64 i] w fun e w' => e = .returned (.bool false) ∧ Below w.heap.size w w' := by
  go_enter Try.func27, Try.ntmps27
  go_wp2_with (go_at_call 45; refine (is_nil 0 i _).mono ?_; rintro e w1 ⟨rfl, rfl⟩)
  go_ret
  exact ⟨rfl, by repeat (first | exact Below.refl _ _ | refine below_new ?_ _)⟩
set_option maxHeartbeats 8000000 in
set_option maxRecDepth 100000 in
theorem first_nil (k i : Int) (w : World) :
    Calls Try.prog 28 #[.pointer none, .int .i64 k] w fun e w' => e = .returned (.int .i64 (-1)) ∧ Below w.heap.size w w' := by
  go_enter Try.func28, Try.ntmps28
  go_wp2_with (go_at_call 45; refine (is_nil 0 i _).mono ?_; rintro e w1 ⟨rfl, rfl⟩)
  go_ret
  exact ⟨rfl, by repeat (first | exact Below.refl _ _ | refine below_new ?_ _)⟩
set_option maxHeartbeats 8000000 in
set_option maxRecDepth 100000 in
theorem next_nil (k i : Int) (w : World) :
    Calls Try.prog 29 #[.pointer none, .int .i64 i] w fun e w' => e = .returned (.int .i64 (-1)) ∧ Below w.heap.size w w' := by
  go_enter Try.func29, Try.ntmps29
  go_wp2_with (go_at_call 45; refine (is_nil 0 i _).mono ?_; rintro e w1 ⟨rfl, rfl⟩)
  go_ret
  exact ⟨rfl, by repeat (first | exact Below.refl _ _ | refine below_new ?_ _)⟩
set_option maxHeartbeats 8000000 in
set_option maxRecDepth 100000 in
theorem len_nil (k i : Int) (w : World) :
    Calls Try.prog 32 #[.pointer none, .int .i64 k] w fun e w' => e = .returned (.int .i64 0) ∧ Below w.heap.size w w' := by
  go_enter Try.func32, Try.ntmps32
  go_wp2_with (go_at_call 45; refine (is_nil 0 i _).mono ?_; rintro e w1 ⟨rfl, rfl⟩)
  go_ret
  exact ⟨rfl, by repeat (first | exact Below.refl _ _ | refine below_new ?_ _)⟩
set_option maxHeartbeats 8000000 in
set_option maxRecDepth 100000 in
theorem total_nil (k i : Int) (w : World) :
    Calls Try.prog 33 #[.pointer none] w fun e w' => e = .returned (.int .i64 0) ∧ Below w.heap.size w w' := by
  go_enter Try.func33, Try.ntmps33
  go_wp2_with (go_at_call 45; refine (is_nil 0 i _).mono ?_; rintro e w1 ⟨rfl, rfl⟩)
  go_ret
  exact ⟨rfl, by repeat (first | exact Below.refl _ _ | refine below_new ?_ _)⟩
set_option maxHeartbeats 8000000 in
set_option maxRecDepth 100000 in
theorem copy_nil (k i : Int) (w : World) :
    Calls Try.prog 34 #[.pointer none] w fun e w' => e = .returned (.pointer none) ∧ Below w.heap.size w w' := by
  go_enter Try.func34, Try.ntmps34
  go_wp2_with (go_at_call 45; refine (is_nil 0 i _).mono ?_; rintro e w1 ⟨rfl, rfl⟩)
  go_ret
  exact ⟨rfl, by repeat (first | exact Below.refl _ _ | refine below_new ?_ _)⟩
set_option maxHeartbeats 8000000 in
set_option maxRecDepth 100000 in
theorem key_nil (k i : Int) (w : World) :
    Calls Try.prog 25 #[.pointer none, .int .i64 i] w fun e w' => e = .returned (.tuple #[.int .i64 0, .bool false]) ∧ Below w.heap.size w w' := by
  go_enter Try.func25, Try.ntmps25
  go_wp2_with (go_at_call 45; refine (is_nil 0 i _).mono ?_; rintro e w1 ⟨rfl, rfl⟩)
  refine bodyPost_ret (v := .tuple #[.int .i64 0, .bool false]) (by simp [results, Try.results25, go_sem]) rfl ⟨rfl, by repeat (first | exact Below.refl _ _ | refine below_new ?_ _)⟩
set_option maxHeartbeats 8000000 in
set_option maxRecDepth 100000 in
theorem each1_n (m : Nat) (hm : 1 ≤ m) (Bc : Nat) (Bk : Nat) (k : Int) (I : List Nat → World → Prop) (hI : ∀ pre W, I pre W → W.cell? ⟨Bc, 0, none⟩ = some (.pointer none) ∧ W.cell? ⟨Bk, 0, none⟩ = some (.int .i64 k)) (B0 : Nat) :
    SeqAt Fence.wide m Try.prog 54 #[.pointer (some ⟨Bc, 0, none⟩), .pointer (some ⟨Bk, 0, none⟩)] (fun x : Nat => #[.int .i64 (x : Int)]) I (fun xs => xs = []) (([] : List Nat)).length B0 := by
  intro l J W hJI hJ hY h0
  refine callsIn_of_wp Try.func54 rfl trivial ?_ rfl
  simp only [Try.ntmps54, List.size_toArray, List.length_cons, List.length_nil, Nat.reduceAdd, Nat.reduceSub, Array.replicate_succ, Array.replicate_zero, List.push_toArray, List.append_toArray, List.nil_append, List.cons_append]
  obtain ⟨c0, c1⟩ := hI _ _ (hJI _ _ h0)
  gi_wp2_with (refine ⟨trivial, ?_⟩; gi_at_call 28; refine (callsIn_wide.2 (first_nil k 0 _)).mono ?_; rintro e w1 ⟨rfl, hb1⟩)
  have j1 := abides_ext hJ h0 hb1
  clear c0 c1
  gi_loopw [4] (fun v wr => v = .int .i64 (-1) ∧ J [] wr) (fun v wr => 0)
  case atStart => exact ⟨rfl, j1⟩
  case round =>
    obtain ⟨rfl, hj⟩ := hrel
    gi_wp2
    go_end0
    exact ⟨⟨_, rfl⟩, [], rfl, hj⟩
set_option maxHeartbeats 8000000 in
set_option maxRecDepth 100000 in
theorem each_n (k : Int) (w : World) :
    Calls Try.prog 46 #[.pointer none, .int .i64 k] w fun e w' => e = .returned (.func (.func 54) #[] #[.pointer (some ⟨w.heap.size, 0, none⟩), .pointer (some ⟨w.heap.size + 1, 0, none⟩)]) ∧ w' = (w.alloc (.cells #[.pointer none] 52)).alloc (.cells #[.int .i64 k] 3) := by
  go_enter Try.func46, Try.ntmps46
  go_wp2
  go_ret
  exact ⟨rfl, rfl⟩
set_option maxHeartbeats 8000000 in
set_option maxRecDepth 100000 in
theorem all_n (k : Int) (w : World) :
    Calls Try.prog 30 #[.pointer none, .int .i64 k] w fun e w' => ∃ a c, e = .returned (.slice a 0 c) ∧ Below w.heap.size w w' := by
  have hB3 : Below w.heap.size w ((w.alloc (.cells #[.pointer none] 52)).alloc (.cells #[.int .i64 k] 3)) := below_new (below_new (Below.refl _ _) _) _
  have r1 := (RowAt.new w #[.pointer none] 52).alloc (.cells #[.int .i64 k] 3)
  have r2 := RowAt.new (w.alloc (.cells #[.pointer none] 52)) #[.int .i64 k] 3
  rw [World.size_alloc] at r2
  have q1 := r1.cell (i := 0) rfl
  have q2 := r2.cell (i := 0) rfl
  have HC := Lib.hid (collect_gen 54 #[.pointer (some ⟨w.heap.size, 0, none⟩), .pointer (some ⟨w.heap.size + 1, 0, none⟩)] (enters_of Try.func54 (by kernel_rfl) rfl) [] (by decide) _ (fun I B0 hI => each1_n 4 (by omega) w.heap.size (w.heap.size + 1) k I (fun pre W h => ⟨(⟨W, hI pre W h⟩ : Ext _ _).cell q1, (⟨W, hI pre W h⟩ : Ext _ _).cell q2⟩) B0))
  have HB := Lib.hid hB3
  clear r1 r2 q1 q2 hB3
  go_enter Try.func30, Try.ntmps30
  go_wp2_with (first | (go_at_call 46; refine (each_n k _).mono ?_; rintro e w1 ⟨rfl, rfl⟩) | (go_at_call 40; refine HC.out.mono ?_; rintro e w1 ⟨v, rfl, hown, hb⟩))
  obtain ⟨a, c, rfl⟩ := own_slice hown
  go_ret
  exact ⟨a, c, rfl, below_then HB.out hb⟩
set_option maxHeartbeats 8000000 in
set_option maxRecDepth 100000 in
theorem take_n (k : Int) (w : World) :
    Calls Try.prog 31 #[.pointer none, .int .i64 k] w fun e w' => ∃ a c, e = .returned (.slice a 0 c) ∧ Below w.heap.size w w' := by
  obtain ⟨V, hV⟩ : ∃ V, ((w.alloc (.cells #[.pointer none] 52)).alloc (.cells #[.slice none 0 0] 40)) = V := ⟨_, rfl⟩
  have hbV : Below w.heap.size w V := hV ▸ below_new (below_new (Below.refl _ _) _) _
  have r1 : RowAt V w.heap.size #[.pointer none] 52 := hV ▸ (RowAt.new w #[.pointer none] 52).alloc _
  have bO : Boxed V (w.heap.size + 1) 40 (.slice none 0 0) := by
    have := Boxed.new (w.alloc (.cells #[.pointer none] 52)) 40 (.slice none 0 0)
    rw [World.size_alloc] at this
    exact hV ▸ this
  have hsV : V.heap.size = w.heap.size + 2 := by rw [← hV]; simp
  have hc0 := r1.cell (i := 0) rfl
  obtain ⟨U, hU⟩ : ∃ U, (V.alloc (.cells #[.pointer none] 52)).alloc (.cells #[.int .i64 k] 3) = U := ⟨_, rfl⟩
  have hsU : U.heap.size = V.heap.size + 2 := by rw [← hU]; simp
  have hbU : Below w.heap.size w U := hU ▸ below_new (below_new hbV _) _
  have bOU : Boxed U (w.heap.size + 1) 40 (.slice none 0 0) := hU ▸ (bO.alloc _).alloc _
  have q1 : RowAt U V.heap.size #[.pointer none] 52 := hU ▸ (RowAt.new V #[.pointer none] 52).alloc _
  have q2 : RowAt U (V.heap.size + 1) #[.int .i64 k] 3 := by
    have := RowAt.new (V.alloc (.cells #[.pointer none] 52)) #[.int .i64 k] 3
    rw [World.size_alloc] at this
    exact hU ▸ this
  have HU := Lib.hid (And.intro hU (And.intro bOU (And.intro q1 (And.intro q2 (And.intro hbU (And.intro hsU hsV))))))
  clear r1 bO hsV hU hsU hbU bOU q1 q2 hbV
  refine (callsIn_wide (n := 5)).1 ?_
  refine callsIn_of_wp_marks Try.func31 rfl trivial ?_ rfl
  simp only [Try.ntmps31, List.size_toArray, List.length_cons, List.length_nil, Nat.reduceAdd, Nat.reduceSub, Array.replicate_succ, Array.replicate_zero, List.push_toArray, List.append_toArray, List.nil_append, List.cons_append]
  gi_wp2_with (refine ⟨trivial, ?_⟩; gi_at_call 46; refine (callsIn_wide.2 (each_n k _)).mono ?_; rintro e w1 ⟨rfl, rfl⟩)
  rw [HU.out.1]
  clear hc0
  refine wpIn_range_at rfl (by omega) (gf := 54) (lb := #[.pointer (some ⟨V.heap.size, 0, none⟩), .pointer (some ⟨V.heap.size + 1, 0, none⟩)]) rfl trivial (enters_of Try.func54 (by kernel_rfl) rfl) (encs := fun x : Nat => #[.int .i64 (x : Int)]) (S := fun xs => xs = []) (N := ([] : List Nat).length) (fun _ => rfl)
    (fun pre W => Boxed W (w.heap.size + 1) 40 (.slice none 0 0) ∧ Below U.heap.size U W)
    (fun s A B row hs hg hr => ⟨RowAt.only hs.1 (grown_only hg fun r e => (hr r e).1) (by have hn1 := HU.out.2.2.2.2.2.1; have hn2 := HU.out.2.2.2.2.2.2; omega), hs.2.trans ⟨hg.os, hg.tape, hg.output, hg.size, fun k hk => hg.block k (Nat.lt_of_lt_of_le hk hs.2.size) (fun e => by have := (hr k e.symm).1; omega)⟩⟩)
    ⟨HU.out.2.1, Below.refl _ _⟩
    (fun x => { tmps := #[.pointer none, .int .i64 k, .pointer (some ⟨w.heap.size, 0, none⟩), undef, .slice none 0 0, .pointer (some ⟨w.heap.size + 1, 0, none⟩), .int .i64 (x : Int), .pointer none, .int .i64 k, .func (.func 54) #[] #[.pointer (some ⟨V.heap.size, 0, none⟩), .pointer (some ⟨V.heap.size + 1, 0, none⟩)], .int .i64 (x : Int), undef, undef, undef, undef, undef, undef, undef, undef], defers := [] })
    (each1_n _ (by omega) V.heap.size (V.heap.size + 1) k _ (fun pre W h => ⟨(RowAt.ext HU.out.2.2.1 h.2).cell (i := 0) rfl, (RowAt.ext HU.out.2.2.2.1 h.2).cell (i := 0) rfl⟩) _)
    ?assign ?body ?done
  case assign =>
    intro l x W K hK
    gi_wp2
    exact hK
  case body =>
    intro l pre x W hI hlt
    exact absurd hlt (Nat.not_lt_zero _)
  case done =>
    rintro D ys W hD rfl ⟨hv, hT⟩ hK
    have hc := hv.cell
    have hf := hv.frozen
    gi_wp2
    refine ⟨by simp, .inl ⟨_, _, rfl, run_takeDeferred hK, ?_⟩⟩
    refine ⟨_, results_tmp rfl _ _ _, none, 0, rfl, ?_⟩
    have hb := below_then HU.out.2.2.2.2.1 hT
    exact hb.trans (belowK_b (w := w) (Nat.le_refl _) W D _ _ (by have hn1 := HU.out.2.2.2.2.2.1; have hn2 := HU.out.2.2.2.2.2.2; omega) hK rfl rfl)
end Nl
set_option maxHeartbeats 8000000 in
set_option maxRecDepth 100000 in
theorem ChainNil_walk (k i : Int) (w : World) (_ : -9223372036854775808 ≤ k) (_ : k ≤ 9223372036854775807) (_ : -9223372036854775808 ≤ i) (_ : i ≤ 9223372036854775807) :
    Calls Try.prog 6 #[.int .i64 k, .int .i64 i] w fun e w' => e = .returned (.bool true) ∧ Below w.heap.size w w' := by
  have HBO := Lib.hid (Below.refl w.heap.size w)
  go_enter Try.func6, Try.ntmps6
  go_wp2_with (first | (go_at_call 25; refine (Nl.key_nil 0 i _).mono ?_; rintro e wr ⟨rfl, hbr⟩; have HBN := Lib.hid (below_then HBO.out hbr); clear HBO hbr; have HBO := Lib.hid HBN.out; clear HBN) | (go_at_call 15; refine (known17 _).mono ?_; rintro e wr ⟨rfl, hbr⟩; have HBN := Lib.hid (below_then HBO.out hbr); clear HBO hbr; have HBO := Lib.hid HBN.out; clear HBN) | (go_at_call 26; refine (Nl.push_nil k i _).mono ?_; rintro e wr ⟨rfl, hbr⟩; have HBN := Lib.hid (below_then HBO.out hbr); clear HBO hbr; have HBO := Lib.hid HBN.out; clear HBN) | (go_at_call 27; refine (Nl.remove_nil 0 i _).mono ?_; rintro e wr ⟨rfl, hbr⟩; have HBN := Lib.hid (below_then HBO.out hbr); clear HBO hbr; have HBO := Lib.hid HBN.out; clear HBN) | (go_at_call 28; refine (Nl.first_nil k 0 _).mono ?_; rintro e wr ⟨rfl, hbr⟩; have HBN := Lib.hid (below_then HBO.out hbr); clear HBO hbr; have HBO := Lib.hid HBN.out; clear HBN) | (go_at_call 29; refine (Nl.next_nil 0 i _).mono ?_; rintro e wr ⟨rfl, hbr⟩; have HBN := Lib.hid (below_then HBO.out hbr); clear HBO hbr; have HBO := Lib.hid HBN.out; clear HBN) | (go_at_call 32; refine (Nl.len_nil k 0 _).mono ?_; rintro e wr ⟨rfl, hbr⟩; have HBN := Lib.hid (below_then HBO.out hbr); clear HBO hbr; have HBO := Lib.hid HBN.out; clear HBN) | (go_at_call 33; refine (Nl.total_nil 0 0 _).mono ?_; rintro e wr ⟨rfl, hbr⟩; have HBN := Lib.hid (below_then HBO.out hbr); clear HBO hbr; have HBO := Lib.hid HBN.out; clear HBN) | (go_at_call 34; refine (Nl.copy_nil 0 0 _).mono ?_; rintro e wr ⟨rfl, hbr⟩; have HBN := Lib.hid (below_then HBO.out hbr); clear HBO hbr; have HBO := Lib.hid HBN.out; clear HBN) | (go_at_call 30; refine (Nl.all_n k _).mono ?_; rintro e wr ⟨a, c, rfl, hbr⟩; have HBN := Lib.hid (below_then HBO.out hbr); clear HBO hbr; have HBO := Lib.hid HBN.out; clear HBN) | (go_at_call 31; refine (Nl.take_n k _).mono ?_; rintro e wr ⟨a, c, rfl, hbr⟩; have HBN := Lib.hid (below_then HBO.out hbr); clear HBO hbr; have HBO := Lib.hid HBN.out; clear HBN))
  go_ret
  exact ⟨rfl, HBO.out⟩
end Go.Proofs.Ytelnembjcgkiaaa
