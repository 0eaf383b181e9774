/- Are two lists the same: the statements' own question. -/
import Derived.Test.YtelnembjcgkiaaaChS
namespace Go.Proofs.Ytelnembjcgkiaaa
open Go.RowKit
set_option linter.unusedVariables false
set_option linter.unusedSimpArgs false

theorem take_step {L M : List Int} {k : Nat} (h : L.take k = M.take k) (h1 : k < L.length) (h2 : k < M.length) (e : L[k] = M[k]) : L.take (k + 1) = M.take (k + 1) := by
  rw [List.take_succ_eq_append_getElem h1, List.take_succ_eq_append_getElem h2, h, e]
set_option maxHeartbeats 8000000 in
set_option maxRecDepth 100000 in
theorem same_any (L M : List Int) (v u : Value) (ok ok' : Nat → Prop) (w : World) (hv : Lst .i64 w v L ok) (hu : Lst .i64 w u M ok') (hl : L.length ≤ 1000000000) (hm : M.length ≤ 1000000000) :
    Calls Try.prog 18 #[v, u] w fun e w' => e = .returned (.bool (decide (L = M))) ∧ Below w.heap.size w w' := by
  obtain ⟨a, cap, rfl, hc1, hc2, hcell⟩ := hv
  obtain ⟨a', cap', rfl, hd1, hd2, hcell'⟩ := hu
  have HC := Lib.hid hcell
  have HD := Lib.hid hcell'
  obtain ⟨len, hlen⟩ : ∃ n : Nat, L.length = n := ⟨_, rfl⟩
  obtain ⟨lem, hlem⟩ : ∃ n : Nat, M.length = n := ⟨_, rfl⟩
  have HL := Lib.hid hlen
  have HM := Lib.hid hlem
  rw [hlen] at hc1 hl ⊢
  rw [hlem] at hd1 hm ⊢
  clear hcell hcell' hlen hlem hc1 hc2 hd1 hd2
  by_cases hne : len = lem
  · subst hne
    have e0 : ((len : Int) != (len : Int)) = false := by simp
    go_enter Try.func18, Try.ntmps18
    go_wp2_with fail
    go_loopw [5] (fun v wr => ∃ k : Nat, v = .int .i64 k ∧ k ≤ len ∧ L.take k = M.take k ∧ Below w.heap.size w wr) (fun v _ => len - (intOf v).toNat)
    case atStart => exact ⟨0, rfl, by omega, rfl, Below.refl _ _⟩
    case round =>
      obtain ⟨k, rfl, hk, ht, hB⟩ := hrel
      have HB := Lib.hid hB
      have HT := Lib.hid ht
      clear hB ht
      by_cases hlt : k < len
      · have g1 : decide ((k : Int) < (len : Int)) = true := dec_t (by omega)
        have hk1 : k < L.length := by rw [HL.out]; exact hlt
        have hk2 : k < M.length := by rw [HM.out]; exact hlt
        obtain ⟨p, rfl, hp, _, hcl⟩ := HC.out (by omega)
        obtain ⟨q, rfl, hq, _, hcm⟩ := HD.out (by omega)
        have cx : ∀ x : Ext wr.heap.size wr, x.world.cell? (p.add k) = some (.int .i64 L[k]) := fun x => ((below_then HB.out x.ok).cell (p := p.add k) (by rw [addr_add_block]; exact hp)).trans (hcl k hk1)
        have cy : ∀ x : Ext wr.heap.size wr, x.world.cell? (q.add k) = some (.int .i64 M[k]) := fun x => ((below_then HB.out x.ok).cell (p := q.add k) (by rw [addr_add_block]; exact hq)).trans (hcm k hk2)
        have hki : (k : Int) < (len : Int) := by omega
        have hk0 : (0 : Int) ≤ (k : Int) := by omega
        have w1 : wrap64 ((k : Int) + 1) = ((k + 1 : Nat) : Int) := by unfold wrap64; omega
        have HW := Lib.hid w1
        obtain ⟨A, hA⟩ : ∃ A : Int, L[k] = A := ⟨_, rfl⟩
        obtain ⟨B, hB⟩ : ∃ B : Int, M[k] = B := ⟨_, rfl⟩
        rw [hA] at cx
        rw [hB] at cy
        have HE := Lib.hid (And.intro hA hB)
        clear hA hB hcl hcm w1
        refine wp_start (w := wr) ?_
        intro x
        cases hne : (A != B) with
        | true =>
          go_upto_region 6 with fail
          refine wp_region_ext _ (by kernel_rfl) (by kernel_rfl) ?_
          repeat (go_big_quiet_step (fail))
          refine wpQuiet_nil ?_
          rintro _ ⟨y, rfl⟩
          go_wp2_with fail
          go_ret
          refine ⟨?_, below_then HB.out y.ok⟩
          have hAB : A ≠ B := by simpa using hne
          have : L ≠ M := fun e => hAB (by rw [← HE.out.1, ← HE.out.2]; subst e; rfl)
          rw [decide_eq_false this]
          rfl
        | false =>
          go_upto_region 6 with fail
          refine wp_region_ext _ (by kernel_rfl) (by kernel_rfl) ?_
          repeat (go_big_quiet_step (fail))
          refine wpQuiet_nil ?_
          rintro _ ⟨y, rfl⟩
          have HY := Lib.hid y.ok
          go_wp2_with fail
          go_roundw
          case measure => simp [intOf]; omega
          case rel =>
            have hAB : A = B := by simpa using hne
            refine ⟨k + 1, by simp, by omega, take_step HT.out hk1 hk2 (by rw [HE.out.1, HE.out.2, hAB]), below_then HB.out HY.out⟩
      · have g1 : decide ((k : Int) < (len : Int)) = false := dec_f (by omega)
        have hkl : k = len := by omega
        have hLM : L = M := by
          have := HT.out
          rw [hkl, ← HL.out, List.take_length, HL.out, ← HM.out, List.take_length] at this
          exact this
        have HLM := Lib.hid hLM
        clear hLM hkl
        go_wp2_with fail
        go_ret
        exact ⟨by rw [decide_eq_true HLM.out]; rfl, HB.out⟩
  · have e0 : ((len : Int) != (lem : Int)) = true := by simp; omega
    have hLM : L ≠ M := fun e => hne (by rw [← HL.out, ← HM.out, e])
    have HLM := Lib.hid hLM
    clear hLM hne
    go_enter Try.func18, Try.ntmps18
    go_wp2_with fail
    go_ret
    exact ⟨by rw [decide_eq_false HLM.out]; rfl, Below.refl _ _⟩
theorem Lst.of_row {w : World} {g n : Nat} {t : TypeId} {L : List Int} (h : RowAt w g (L.map (Value.int .i64)).toArray t) (hn : L.length = n) (hm : n ≤ maxLen) : Lst .i64 w (.slice (some ⟨g, 0, none⟩) n n) L (fun k => k = g) := by
  subst hn
  refine ⟨_, _, rfl, Nat.le_refl _, hm, fun h0 => ⟨_, rfl, h.lt, rfl, fun k hk => ?_⟩⟩
  rw [addr_add, Nat.zero_add]
  exact h.cell (by simp [hk])
def m1 : List (Ent Bool) := updL false (endV (3, 3, 1)) 0 []
def c1 : Nat := updC false 0 ([] : List (Ent Bool))
def m2 : List (Ent Bool) := updL false (endV (3, 1, 2)) c1 m1
def c2 : Nat := updC false c1 m1
def m3 : List (Ent Bool) := updL true (endV (2, 2, 1)) c2 m2
def c3 : Nat := updC true c2 m2
def m4 : List (Ent Bool) := updL false (endV (1, 1, 1)) c3 m3
def c4 : Nat := updC false c3 m3
def k1 : List Value := Str.putL Str.cs0 3 (Str.lkS (Str.es false) true (-1) (-1))
def k2 : List Value := (Str.putL k1 1 (Str.lkS (Str.es false) true 3 (-1))).set (3 * 4 + 3) (.int .i64 1)
def k3 : List Value := Str.putL k2 2 (Str.lkS (Str.es true) true (-1) (-1))
def k4 : List Value := Str.putL (k3.set (1 * 4 + 2) (.int .i64 (-1))) 3 (Str.lkS (.string ⟨#[]⟩) false 0 0)
theorem only_new {w w1 w2 : World} {bm bl : Nat} (h : Below w.heap.size w w1) (k : Only (S2 bm bl) w1 w2) (hm : w.heap.size ≤ bm) (hl : w.heap.size ≤ bl) : Below w.heap.size w w2 :=
  k.below h (fun q hq => by rcases hq with e | e <;> omega) h.size
theorem chain_a : ∀ pre x rest, [3, 1] = pre ++ x :: rest → x < 5 ∧ k3[x * 4 + 1]? = some (.bool true) ∧ k3[x * 4 + 3]? = some (.int .i64 (headI rest)) := by
  intro pre x rest h
  rcases pre with _ | ⟨y, _ | ⟨z, r⟩⟩
  · simp at h; obtain ⟨rfl, rfl⟩ := h; exact ⟨by decide, rfl, rfl⟩
  · simp at h; obtain ⟨_, rfl, rfl⟩ := h; exact ⟨by decide, rfl, rfl⟩
  · simp at h
theorem chain_b : ∀ pre x rest, [1] = pre ++ x :: rest → x < 5 ∧ k4[x * 4 + 1]? = some (.bool true) ∧ k4[x * 4 + 3]? = some (.int .i64 (headI rest)) := by
  intro pre x rest h
  rcases pre with _ | ⟨y, r⟩
  · simp at h; obtain ⟨rfl, rfl⟩ := h; exact ⟨by decide, rfl, rfl⟩
  · simp at h
set_option maxHeartbeats 8000000 in
set_option maxRecDepth 100000 in
theorem known17 (w : World) :
    Calls Try.prog 15 #[] w fun e w' => e = .returned (.bool true) ∧ Below w.heap.size w w' := by
  have y1 : decide (([3, 1] : List Nat).map (fun x : Nat => (x : Int)) = [3, 1]) = true := by decide
  have y2 : decide (([1] : List Nat).map (fun x : Nat => (x : Int)) = [1]) = true := by decide
  go_enter Try.func15, Try.ntmps15
  go_wp2_with (first
    | (go_at_call 36; refine (Str.new_s _).mono ?_; rintro e w1 ⟨b, bm, bl, rfl, hge, hS1, hB⟩; have HG := Lib.hid hge; have HS1 := Lib.hid hS1; have HB1 := Lib.hid hB; clear hge hS1 hB)
    | (go_at_call 37; refine (Str.push_new b bm bl _ _ _ _ HS1.out false 3 (by decide) rfl rfl).mono ?_; rintro e w2 ⟨rfl, hS2, hO2⟩; have HS2 := Lib.hid (show Str.SAt w2 b bm bl m1 c1 k1 from hS2); have HB2 := Lib.hid (only_new HB1.out hO2 HG.out.2.1 HG.out.2.2); clear HS1 HB1 hS2 hO2)
    | (go_at_call 37; refine (Str.push_more b bm bl m1 c1 k1 _ HS2.out false 1 (by decide) rfl 3 1 3 (by decide) (by decide) rfl).mono ?_; rintro e w3 ⟨rfl, hS2, hO2⟩; have HS3 := Lib.hid (show Str.SAt w3 b bm bl m2 c2 k2 from hS2); have HB3 := Lib.hid (only_new HB2.out hO2 HG.out.2.1 HG.out.2.2); clear HS2 HB2 hS2 hO2)
    | (go_at_call 37; refine (Str.push_new b bm bl m2 c2 k2 _ HS3.out true 2 (by decide) rfl rfl).mono ?_; rintro e w4 ⟨rfl, hS2, hO2⟩; have HS4 := Lib.hid (show Str.SAt w4 b bm bl m3 c3 k3 from hS2); have HB4 := Lib.hid (only_new HB3.out hO2 HG.out.2.1 HG.out.2.2); clear HS3 HB3 hS2 hO2)
    | (go_at_call 38; refine (Str.all_s b bm bl m3 c3 k3 _ HS4.out false [3, 1] 1 2 rfl (by decide) chain_a).mono ?_; rintro e w5 ⟨v5, rfl, hV, hB⟩; have HS5 := Lib.hid (HS4.out.ext hB); have HB5 := Lib.hid (below_then HB4.out hB); have HV5 := Lib.hid hV; clear HS4 HB4 hV hB)
    | (go_at_call 18; refine (same_any _ [3, 1] _ _ _ (fun k => k = w5.heap.size) _ (HV5.out.ext (below_new (Below.refl _ _) _)) (Lst.of_row (n := 2) (RowAt.new w5 #[.int .i64 3, .int .i64 1] 3) rfl (by unfold maxLen; omega)) (by decide) (by decide)).mono ?_; rw [y1]; rintro e w6 ⟨rfl, hB⟩; have HS6 := Lib.hid (HS5.out.ext (below_then (below_new (Below.refl _ _) _) hB)); have HB6 := Lib.hid (below_then (below_new HB5.out _) hB); clear HS5 HB5 HV5 hB)
    | (go_at_call 39; refine (Str.remove_first b bm bl m3 c3 k3 _ HS6.out false 3 1 (by decide) (by decide) 3 1 2 (by decide) rfl rfl rfl rfl rfl).mono ?_; rintro e w7 ⟨rfl, hS2, hO2⟩; have HS7 := Lib.hid (show Str.SAt w7 b bm bl m4 c4 k4 from hS2); have HB7 := Lib.hid (only_new HB6.out hO2 HG.out.2.1 HG.out.2.2); clear HS6 HB6 hS2 hO2)
    | (go_at_call 38; refine (Str.all_s b bm bl m4 c4 k4 _ HS7.out false [1] 1 1 rfl (by decide) chain_b).mono ?_; rintro e w8 ⟨v8, rfl, hV, hB⟩; have HS8 := Lib.hid (HS7.out.ext hB); have HB8 := Lib.hid (below_then HB7.out hB); have HV8 := Lib.hid hV; clear HS7 HB7 hV hB)
    | (go_at_call 18; refine (same_any _ [1] _ _ _ (fun k => k = w8.heap.size) _ (HV8.out.ext (below_new (Below.refl _ _) _)) (Lst.of_row (n := 1) (RowAt.new w8 #[.int .i64 1] 3) rfl (by unfold maxLen; omega)) (by decide) (by decide)).mono ?_; rw [y2]; rintro e w9 ⟨rfl, hB⟩; have HS9 := Lib.hid (HS8.out.ext (below_then (below_new (Below.refl _ _) _) hB)); have HB9 := Lib.hid (below_then (below_new HB8.out _) hB); clear HS8 HB8 HV8 hB)
    | (go_at_call 37; refine (Str.push_ref b bm bl m4 c4 k4 _ HS9.out true 1 (by decide) rfl).mono ?_; rintro e w10 ⟨rfl, hB⟩; have HB10 := Lib.hid (below_then HB9.out hB); clear HS9 HB9 hB))
  go_ret
  exact ⟨rfl, HB10.out⟩
end Go.Proofs.Ytelnembjcgkiaaa
