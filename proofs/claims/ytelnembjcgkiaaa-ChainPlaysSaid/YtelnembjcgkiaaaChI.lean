/- Chains at keys of two numbers: the iterator each; All. -/
import Derived.Test.YtelnembjcgkiaaaChH
import Derived.Test.YtelnembjcgkiaaaRangeAt
namespace Go.Proofs.Ytelnembjcgkiaaa
open Go.RowKit Go.Shelf
set_option linter.unusedVariables false
set_option linter.unusedSimpArgs false
attribute [local go_sem] Oper.semAt_some
/-- How many of a list there are from a place on. -/
def leftI (F : List Nat) (v : Int) : Nat := (F.dropWhile fun x : Nat => decide ((x : Int) ≠ v)).length
theorem leftI_app {A B : List Nat} (hn : (A ++ B).Nodup) : leftI (A ++ B) (headI B) = B.length := by
  unfold leftI
  induction A with
  | nil =>
    cases B with
    | nil => rfl
    | cons x r => simp [headI]
  | cons y A ih =>
    rw [List.cons_append, List.nodup_cons] at hn
    rw [List.cons_append, List.dropWhile_cons, if_pos ?_, ih hn.2]
    simp only [decide_eq_true_eq]
    intro e
    cases B with
    | nil => simp only [headI] at e; omega
    | cons x r =>
      simp only [headI] at e
      have : y = x := by omega
      exact hn.1 (by rw [this]; simp)
/-- What the iterator reads: the chains, and what it has captured. -/
structure ChSt (W : World) (b bm bl n Bc Bk : Nat) (k1 k2 : Int) (L : List ((Int × Int) × Nat)) : Prop where
  at_ : ∃ lk, ChAt W b bm bl n L lk
  c : W.cell? ⟨Bc, 0, none⟩ = some (.pointer (some ⟨b, 0, none⟩))
  k1_ : W.cell? ⟨Bk, 0, none⟩ = some (.int .i64 k1)
  k2_ : W.cell? ⟨Bk, 1, none⟩ = some (.int .i64 k2)
theorem next_row {n : Nat} {L : List ((Int × Int) × Nat)} {lk : Nat → Lk (Int × Int)} {hd : Int × Int → Option (Int × Int × Int)} (h : Rep (0, 0) n L lk hd) {k : Int × Int} {A B : List Nat} {j : Nat} (hF : ofK L k = A ++ j :: B) : nextI n lk (j : Int) = headI B := by
  have hl := h.link k A j B hF
  have hlt : j < n := h.lt _ (mem_ofK.1 (show j ∈ ofK L k by rw [hF]; simp))
  have hb : inB n lk (j : Int) = true := by unfold inB; rw [if_pos ⟨by omega, by omega⟩, Int.toNat_natCast, hl]
  unfold nextI
  rw [if_pos hb, Int.toNat_natCast, hl]
set_option maxHeartbeats 8000000 in
set_option maxRecDepth 100000 in
theorem each1_at (n : Nat) (hn : n ≤ 4096) (m : Nat) (hm : 1 ≤ m) (b bm bl Bc Bk : Nat) (k1 k2 : Int) (Lof : List Nat → List ((Int × Int) × Nat)) (F : List Nat) (hF0 : ofK (Lof []) (k1, k2) = F) (hnd : F.Nodup)
    (hnx : ∀ pre x rest, F = pre ++ x :: rest → ∃ A, ofK (Lof pre) (k1, k2) = A ++ x :: rest) (I : List Nat → World → Prop) (hI : ∀ pre W, I pre W → ChSt W b bm bl n Bc Bk k1 k2 (Lof pre)) (B0 : Nat) :
    SeqAt Fence.wide m Try.prog 52 #[.pointer (some ⟨Bc, 0, none⟩), .pointer (some ⟨Bk, 0, none⟩)] (fun x : Nat => #[.int .i64 (x : Int)]) I (fun xs => xs = F) F.length B0 := by
  intro l J W hJI hJ hY h0
  refine callsIn_of_wp Try.func52 rfl trivial ?_ rfl
  simp only [Try.ntmps52, List.size_toArray, List.length_cons, List.length_nil, Nat.reduceAdd, Nat.reduceSub, Array.replicate_succ, Array.replicate_zero, List.push_toArray, List.append_toArray, List.nil_append, List.cons_append]
  have s0 := hI _ _ (hJI _ _ h0)
  obtain ⟨lk, hA⟩ := s0.at_
  have c0 := s0.c
  have c1 := s0.k1_
  have c2 := s0.k2_
  have HA := Lib.hid hA
  clear hA s0
  gi_wp2_with (refine ⟨trivial, ?_⟩; gi_at_call 10; refine (callsIn_wide.2 (first_any b bm bl n _ lk _ HA.out (k1, k2))).mono ?_; rintro e w1 ⟨rfl, hb1⟩)
  have j1 := abides_ext hJ h0 hb1
  clear c0 c1 c2 HA
  gi_loopw [4] (fun v wr => ∃ pre rest : List Nat, v = .int .i64 (headI rest) ∧ F = pre ++ rest ∧ J pre wr) (fun v wr => leftI F (intOf v))
  case atStart => exact ⟨[], F, by rw [← hF0], rfl, j1⟩
  case round =>
    obtain ⟨pre, rest, rfl, hx0, hj⟩ := hrel
    have HX := Lib.hid hx0
    clear hx0
    cases rest with
    | nil =>
      have e1 : headI [] = -1 := rfl
      rw [e1]
      gi_wp2
      go_end0
      exact ⟨⟨_, rfl⟩, pre, by rw [HX.out]; simp, hj⟩
    | cons x rest =>
      have e1 : headI (x :: rest) = (x : Int) := rfl
      rw [e1]
      have s0 := hI _ _ (hJI _ _ hj)
      obtain ⟨lk, hA⟩ := s0.at_
      have c0 := s0.c
      have hr : nextI n lk (x : Int) = headI rest := by
        obtain ⟨A, hA1⟩ := hnx pre x rest HX.out
        obtain ⟨M, c, cp, q⟩ := hA
        exact next_row q.rep hA1
      have hN := next_any b bm bl n _ lk wr hA hn (x : Int)
      rw [hr] at hN
      have HN := Lib.hid hN
      have dn : (((x : Nat) : Int) == -1) = false := by simp
      have dn2 : ((x : Int) != -1) = true := by simp
      obtain ⟨fn, tmps, assign, body, hy, hR⟩ := hY pre x _ hj (by rw [HX.out]; simp)
      have HR := Lib.hid hR
      clear hA hN s0 hr hR
      gi_wp2_with (refine ⟨trivial, ?_⟩; gi_at_call 11; refine (callsIn_wide.2 HN.out).mono ?_; rintro e w1 ⟨rfl, rfl⟩)
      refine HR.out.mono ?_
      rintro e W3 ⟨rfl, hJ3⟩
      gi_wp2
      go_roundw
      case measure =>
        have hn2 : (pre ++ x :: rest).Nodup := HX.out ▸ hnd
        have hn3 : ((pre ++ [x]) ++ rest).Nodup := by simpa using hn2
        have m1 : leftI F (headI rest) = rest.length := by rw [HX.out, show pre ++ x :: rest = (pre ++ [x]) ++ rest by simp, leftI_app hn3]
        have m2 : leftI F (x : Int) = rest.length + 1 := by
          have := leftI_app hn2
          rw [HX.out]
          exact this
        show leftI F (headI rest) < leftI F (x : Int)
        rw [m1, m2]
        omega
      case rel => exact ⟨pre ++ [x], rest, rfl, by rw [HX.out]; simp, hJ3⟩

theorem info_i : (Try.prog.info? 3).map (fun i => (i.zero, i.size, i.bytes)) = some (some (.int .i64 0), 1, 8) := by kernel_rfl
def ic (l : List Nat) : List Value := l.map fun x : Nat => .int .i64 (x : Int)
theorem ic_snoc (l : List Nat) (x : Nat) : ic (l ++ [x]) = ic l ++ [.int .i64 (x : Int)] := by unfold ic; simp
section
variable {w w' : World} {b bm bl n Bc Bk : Nat} {k1 k2 : Int} {L : List ((Int × Int) × Nat)}
theorem ChSt.ext (h : ChSt w b bm bl n Bc Bk k1 k2 L) (hb : Below w.heap.size w w') : ChSt w' b bm bl n Bc Bk k1 k2 L := by
  obtain ⟨⟨lk, hA⟩, h1, h2, h3⟩ := h
  exact ⟨⟨lk, hA.ext hb⟩, (⟨_, hb⟩ : Ext _ w).cell h1, (⟨_, hb⟩ : Ext _ w).cell h2, (⟨_, hb⟩ : Ext _ w).cell h3⟩
end
set_option maxHeartbeats 8000000 in
set_option maxRecDepth 100000 in
theorem appseq_any (n : Nat) (hn : n ≤ 4096) (b bm bl Bc Bk : Nat) (k1 k2 : Int) (L : List ((Int × Int) × Nat)) (w : World) (hS : ChSt w b bm bl n Bc Bk k1 k2 L) :
    Calls Try.prog 51 #[.slice none 0 0, .func (.func 52) #[] #[.pointer (some ⟨Bc, 0, none⟩), .pointer (some ⟨Bk, 0, none⟩)]] w fun e w' => ∃ v, e = .returned v ∧ w'.ownsRow w.heap.size 3 1 v (ofK L (k1, k2)).length (ic (ofK L (k1, k2))) ∧ Below w.heap.size w w' := by
  obtain ⟨F, hF⟩ : ∃ F, ofK L (k1, k2) = F := ⟨_, rfl⟩
  have hnd : F.Nodup ∧ F.length ≤ n := by
    obtain ⟨lk, M, c, cp, q⟩ := hS.at_
    exact ⟨hF ▸ ofK_nodup q.rep.nd _, hF ▸ len_le q.rep _⟩
  rw [hF]
  obtain ⟨i0, hi, hz0, hz1, hz2⟩ := info_parts info_i
  have HS := Lib.hid hS
  have HF := Lib.hid hF
  clear hS hF
  refine (callsIn_wide (n := 5)).1 ?_
  refine callsIn_of_wp_marks Try.func51 rfl trivial ?_ rfl
  simp only [Try.ntmps51, List.size_toArray, List.length_cons, List.length_nil, Nat.reduceAdd, Nat.reduceSub, Array.replicate_succ, Array.replicate_zero, List.push_toArray, List.append_toArray, List.nil_append, List.cons_append]
  gi_wp2
  have bO := Boxed.new w 40 (.slice none 0 0)
  have hB0 : Below w.heap.size w (w.alloc (.cells #[.slice none 0 0] 40)) := below_new (Below.refl _ _) _
  refine wpIn_range_at rfl (by omega) (gf := 52) (lb := #[.pointer (some ⟨Bc, 0, none⟩), .pointer (some ⟨Bk, 0, none⟩)]) rfl trivial (enters_of Try.func52 (by kernel_rfl) rfl) (encs := fun x : Nat => #[.int .i64 (x : Int)]) (S := fun xs => xs = F) (N := F.length) (fun _ => rfl)
    (fun pre W => (∃ v, Boxed W w.heap.size 40 v ∧ W.ownsRow w.heap.size 3 1 v pre.length (ic pre) ∧ True) ∧ Below w.heap.size w W)
    (OwnFrom.and (Own.from (holdsRow_own w.heap.size w.heap.size 40 3 1 (fun pre : List Nat => pre.length) ic (fun _ _ => True)) _) (ownFrom_below (Nat.le_refl _) (by simp)))
    ⟨⟨_, bO, ⟨by simp [ic], .inl ⟨rfl, rfl⟩⟩, trivial⟩, hB0⟩
    (fun x => { tmps := #[.slice none 0 0, .func (.func 52) #[] #[.pointer (some ⟨Bc, 0, none⟩), .pointer (some ⟨Bk, 0, none⟩)], .pointer (some ⟨w.heap.size, 0, none⟩), undef, .slice none 0 0, .int .i64 (x : Int), .func (.func 52) #[] #[.pointer (some ⟨Bc, 0, none⟩), .pointer (some ⟨Bk, 0, none⟩)], .int .i64 (x : Int), undef, undef, undef, undef, undef], defers := [] })
    (each1_at n hn _ (by omega) b bm bl Bc Bk k1 k2 (fun _ => L) F HF.out hnd.1 (fun pre x rest h => ⟨pre, by rw [HF.out]; exact h⟩) _ (fun pre W h => HS.out.ext h.2) _)
    ?assign ?body ?done
  case assign =>
    intro l x W K hK
    gi_wp2
    exact hK
  case body =>
    rintro l pre x W ⟨⟨v, hv, hrow, -⟩, hBw⟩ hlt
    have hc := hv.cell
    have hf := hv.frozen
    have hlt2 := hnd.2
    gi_wp2_with (gi_at_builtin; refine wpListIn_append_own _ rfl _ _ 40 rfl w.heap.size 3 i0 (.int .i64 0) 1 8 Try.underlying40 hi hz0 hz1 hz2 rfl (by decide) _ _ _ rfl (hrow.alloc _) ⟨W.heap.size, 0, none⟩ 1 1 [.int .i64 (x : Int)] rfl rfl (cell_one_new _ _ _) (by simp [Value.oneCell']) (have h5 : (5000 : Nat) ≤ maxLen := (by unfold maxLen; omega); by omega) (by omega) (by have := hBw.size; simp; omega) ?_; intro v' w1 hown' hgrow _; obtain ⟨g', cap', rfl⟩ := ownsRow_succ hown'; obtain ⟨hv1, hv2, hr2, hk2, hb2⟩ := hv.appended (by decide) hrow hBw.size (Nat.le_refl _) hown' hgrow; have hc1 := hv1.cell; have hf1 := hv1.frozen)
    exact ⟨hk2.from _, ⟨_, hv2, by rw [ic_snoc]; exact hr2⟩, hBw.trans hb2⟩
  case done =>
    rintro D ys W hD hy ⟨⟨v, hv, hrow, -⟩, hBw⟩ hK
    subst hy
    have hc := hv.cell
    have hf := hv.frozen
    gi_wp2
    refine ⟨by simp, .inl ⟨_, _, rfl, run_takeDeferred hK, ?_⟩⟩
    exact ⟨_, results_tmp rfl _ _ _, v, rfl, ownsRow_putObj hrow _ hK rfl, hBw.trans (belowK_b (w := w) (Nat.le_refl _) W D _ _ (by simp at hD; omega) hK rfl rfl)⟩
set_option maxHeartbeats 8000000 in
set_option maxRecDepth 100000 in
theorem collect_any (n : Nat) (hn : n ≤ 4096) (b bm bl Bc Bk : Nat) (k1 k2 : Int) (L : List ((Int × Int) × Nat)) (w : World) (hS : ChSt w b bm bl n Bc Bk k1 k2 L) :
    Calls Try.prog 40 #[.func (.func 52) #[] #[.pointer (some ⟨Bc, 0, none⟩), .pointer (some ⟨Bk, 0, none⟩)]] w fun e w' => ∃ v, e = .returned v ∧ w'.ownsRow w.heap.size 3 1 v (ofK L (k1, k2)).length (ic (ofK L (k1, k2))) ∧ Below w.heap.size w w' := by
  have HA := Lib.hid (appseq_any n hn b bm bl Bc Bk k1 k2 L w hS)
  clear hS
  go_enter Try.func40, Try.ntmps40
  go_wp2_with (go_at_call 51; refine HA.out.mono ?_; rintro e w1 ⟨v, rfl, hown, hb⟩)
  go_ret
  exact ⟨v, rfl, hown, hb⟩
set_option maxHeartbeats 8000000 in
set_option maxRecDepth 100000 in
theorem each_any (p : Option Addr) (k1 k2 : Int) (w : World) :
    Calls Try.prog 41 #[.pointer p, .agg #[.int .i64 k1, .int .i64 k2]] w fun e w' => e = .returned (.func (.func 52) #[] #[.pointer (some ⟨w.heap.size, 0, none⟩), .pointer (some ⟨w.heap.size + 1, 0, none⟩)]) ∧ w' = (w.alloc (.cells #[.pointer p] 24)).alloc (.cells #[.int .i64 k1, .int .i64 k2] 28 ) := by
  go_enter Try.func41, Try.ntmps41
  go_wp2
  go_ret
  exact ⟨rfl, rfl⟩
set_option maxHeartbeats 8000000 in
set_option maxRecDepth 100000 in
theorem all_any (n : Nat) (hn : n ≤ 4096) (b bm bl : Nat) (k1 k2 : Int) (L : List ((Int × Int) × Nat)) (lk : Nat → Lk (Int × Int)) (w : World) (hA : ChAt w b bm bl n L lk) :
    Calls Try.prog 16 #[.pointer (some ⟨b, 0, none⟩), .agg #[.int .i64 k1, .int .i64 k2]] w fun e w' => ∃ v, e = .returned v ∧ Lst .i64 w' v ((ofK L (k1, k2)).map fun x : Nat => (x : Int)) (fun g => w.heap.size ≤ g) ∧ Below w.heap.size w w' := by
  have hB3 : Below w.heap.size w (((w.alloc (.cells #[.int .i64 k1, .int .i64 k2] 28 )).alloc (.cells #[.pointer (some ⟨b, 0, none⟩)] 24)).alloc (.cells #[.int .i64 k1, .int .i64 k2] 28 )) := below_new (below_new (below_new (Below.refl _ _) _) _) _
  obtain ⟨W1, hW1⟩ : ∃ W1, w.alloc (.cells #[.int .i64 k1, .int .i64 k2] 28 ) = W1 := ⟨_, rfl⟩
  have hs1 : W1.heap.size = w.heap.size + 1 := by rw [← hW1]; simp
  have r1 := RowAt.new W1 #[.pointer (some ⟨b, 0, none⟩)] 24
  have r2 := RowAt.new (W1.alloc (.cells #[.pointer (some ⟨b, 0, none⟩)] 24)) #[.int .i64 k1, .int .i64 k2] 28
  rw [World.size_alloc] at r2
  rw [hW1] at hB3
  have hS : ChSt ((W1.alloc (.cells #[.pointer (some ⟨b, 0, none⟩)] 24)).alloc (.cells #[.int .i64 k1, .int .i64 k2] 28 )) b bm bl n W1.heap.size (W1.heap.size + 1) k1 k2 L :=
    ⟨⟨lk, hA.ext hB3⟩, (r1.alloc _).cell (i := 0) rfl, r2.cell (i := 0) rfl, r2.cell (i := 1) rfl⟩
  have HC := Lib.hid (collect_any n hn b bm bl _ _ k1 k2 L _ hS)
  have HE := Lib.hid (each_any (some ⟨b, 0, none⟩) k1 k2 W1)
  have HB := Lib.hid hB3
  have HS1 := Lib.hid hs1
  clear hS hB3 hA r1 r2 hs1
  go_enter Try.func16, Try.ntmps16
  go_upto_region 1 with fail
  have k0 : W1.cell? ⟨w.heap.size, 0, none⟩ = some (.int .i64 k1) := by rw [← hW1]; exact (RowAt.new w #[.int .i64 k1, .int .i64 k2] 28 ).cell (i := 0) rfl
  have k1_ : W1.cell? ⟨w.heap.size, 1, none⟩ = some (.int .i64 k2) := by rw [← hW1]; exact (RowAt.new w #[.int .i64 k1, .int .i64 k2] 28 ).cell (i := 1) rfl
  clear hW1
  go_wp2_with (first | (go_at_call 41; refine HE.out.mono ?_; rintro e w1 ⟨rfl, rfl⟩) | (go_at_call 40; refine HC.out.mono ?_; rintro e w1 ⟨v, rfl, hown, hb⟩))
  go_ret
  refine ⟨v, rfl, ?_, below_then HB.out hb⟩
  have hw := HB.out.size
  have h2 : (ofK L (k1, k2)).length = ((ofK L (k1, k2)).map fun x : Nat => (x : Int)).length := by simp
  have h3 : ic (ofK L (k1, k2)) = ((ofK L (k1, k2)).map fun x : Nat => (x : Int)).map (Value.int .i64) := by simp [ic]
  rw [h2, h3] at hown
  exact (Lst.of_own hown).mono fun g hg => Nat.le_trans hw hg
end Go.Proofs.Ytelnembjcgkiaaa
