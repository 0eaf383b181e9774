/- The acts of the chains' laws; from thing to thing. -/
import Derived.Test.YtelnembjcgkiaaaChT
import Derived.Test.YtelnembjcgkiaaaArgs
namespace Go.Proofs.Ytelnembjcgkiaaa
open Go.RowKit
set_option linter.unusedVariables false
set_option linter.unusedSimpArgs false
theorem list4 {α : Type} {l : List α} (h : l.length = 4) : ∃ a b c d, l = [a, b, c, d] := by
  match l, h with
  | [a, b, c, d], _ => exact ⟨a, b, c, d, rfl⟩
theorem cell_spot {W : World} {a : Addr} {v : Value} (h : W.cell? a = some v) : a.spot = none := by
  unfold World.cell? at h
  cases hs : a.spot with
  | none => rfl
  | some x =>
    rw [hs] at h
    split at h <;> simp at h
theorem add_plain (b o i j : Nat) : (⟨b, o, none⟩ : Addr).add (i * 4 + j) = ⟨b, o + i * 4 + j, none⟩ := by
  unfold Addr.add
  split
  · rename_i h
    have h1 : i = 0 := by omega
    have h2 : j = 0 := by omega
    subst h1 h2
    rfl
  · rw [Nat.add_assoc]
def actSh : List Sh := [.int .i64, .int .i64, .int .i64, .int .i64]
set_option maxRecDepth 10000 in
/-- What one element of a slice of calls is. -/
theorem act_at {W : World} {a : Option Addr} {len cap : Nat} (h : Fit1 W (.slice actSh) (.slice a len cap)) {i : Nat} (hi : i < len) :
    ∃ (b o : Nat) (k n off v : Int), a = some ⟨b, o, none⟩ ∧ b < W.heap.size ∧ -9223372036854775808 ≤ n ∧ n ≤ 9223372036854775807 ∧
      W.cell? ⟨b, o + i * 4, none⟩ = some (.int .i64 k) ∧ W.cell? ⟨b, o + i * 4 + 1, none⟩ = some (.int .i64 n) ∧ W.cell? ⟨b, o + i * 4 + 2, none⟩ = some (.int .i64 off) ∧ W.cell? ⟨b, o + i * 4 + 3, none⟩ = some (.int .i64 v) := by
  unfold Fit1 at h
  rcases h with h | ⟨a', len', cap', h1, -, -, h4⟩
  · simp only [Value.slice.injEq] at h
    omega
  · simp only [Value.slice.injEq] at h1
    obtain ⟨e1, e2, e3⟩ := h1
    subst e1
    rw [← e2] at h4
    clear e2 e3
    obtain ⟨cs, hc, hf⟩ := h4 i hi
    have hl := hf.length
    obtain ⟨c0, c1, c2, c3, rfl⟩ := list4 hl
    simp only [actSh, Fits, Fit1, and_true] at hf
    obtain ⟨⟨k, rfl, hk⟩, ⟨n, rfl, hn⟩, ⟨off, rfl, ho⟩, ⟨v, rfl, hv⟩⟩ := hf
    have q0 := hc 0 (by simp [actSh])
    have q1 := hc 1 (by simp [actSh])
    have q2 := hc 2 (by simp [actSh])
    have q3 := hc 3 (by simp [actSh])
    obtain ⟨bb, oo, sp⟩ := a'
    have hsp : sp = none := by
      obtain ⟨cs0, hc0, hf0⟩ := h4 0 (by omega)
      have hl0 := hf0.length
      have z := hc0 0 (by show 0 < 4; omega)
      rw [List.getElem?_eq_getElem (by rw [hl0]; show 0 < 4; omega)] at z
      have z2 : (⟨bb, oo, sp⟩ : Addr).add (0 * actSh.length + 0) = ⟨bb, oo, sp⟩ := rfl
      rw [z2] at z
      exact cell_spot z
    subst hsp
    have e : ∀ j, (⟨bb, oo, none⟩ : Addr).add (i * actSh.length + j) = ⟨bb, oo + i * 4 + j, none⟩ := fun j => add_plain bb oo i j
    rw [e] at q0 q1 q2 q3
    have hlt := World.block_lt_of_cell? W _ q0
    have hn' := bounds_i64 hn
    exact ⟨bb, oo, k, n, off, v, rfl, hlt, hn'.1, hn'.2, q0, q1, q2, q3⟩


theorem eql_ek (a b : Int × Int) (w : World) : (binOp .eql 28 (ek a) (ek b)).run Try.prog w = .ok (.bool (decide (a = b))) w := by
  have q := ek_eq a b w
  unfold ek at q ⊢
  simp only [binOp]
  simp [q]
theorem neq_ek (a b : Int × Int) (w : World) : (binOp .neq 28 (ek a) (ek b)).run Try.prog w = .ok (.bool (!decide (a = b))) w := by
  have q := ek_eq a b w
  unfold ek at q ⊢
  simp only [binOp]
  simp [q]
theorem neq_same (k1 k2 : Int) (w : World) : (binOp .neq 28 (.agg #[.int .i64 k1, .int .i64 k2]) (.agg #[.int .i64 k1, .int .i64 k2])).run Try.prog w = .ok (.bool false) w := by
  have := neq_ek (k1, k2) (k1, k2) w
  unfold ek at this
  simpa using this
def okP (n : Nat) (lk : Nat → Lk (Int × Int)) (i : Int) : Bool := decide (0 ≤ i) && decide (i < n) && !inB n lk i
def pushI (n : Nat) (lk : Nat → Lk (Int × Int)) (L : List ((Int × Int) × Nat)) (k : Int × Int) (i : Int) : List ((Int × Int) × Nat) := if okP n lk i = true then L ++ [(k, i.toNat)] else L
def dropI (L : List ((Int × Int) × Nat)) (i : Int) : List ((Int × Int) × Nat) := if 0 ≤ i then dropT L i.toNat else L
set_option maxHeartbeats 8000000 in
set_option maxRecDepth 100000 in
theorem push_all (b bm bl n : Nat) (L : List ((Int × Int) × Nat)) (lk : Nat → Lk (Int × Int)) (w : World) (hA : ChAt w b bm bl n L lk) (hn : n ≤ 4096) (k1 k2 i : Int) :
    Calls Try.prog 8 #[.pointer (some ⟨b, 0, none⟩), .agg #[.int .i64 k1, .int .i64 k2], .int .i64 i] w fun e w' => e = .returned (.bool (okP n lk i)) ∧ (∃ lk', ChAt w' b bm bl n (pushI n lk L (k1, k2) i) lk') ∧ Only (S2 bm bl) w w' := by
  by_cases h : okP n lk i = true
  · unfold pushI
    rw [if_pos h, h]
    unfold okP at h
    simp only [Bool.and_eq_true, decide_eq_true_eq, Bool.not_eq_true'] at h
    obtain ⟨⟨h0, h1⟩, h2⟩ := h
    obtain ⟨j, rfl⟩ := Int.eq_ofNat_of_zero_le h0
    have hin : (lk j).inn = false := by
      unfold inB at h2
      rw [if_pos ⟨by omega, by omega⟩, Int.toNat_natCast] at h2
      exact h2
    refine (push_any b bm bl n L lk w hA hn k1 k2 j (by omega) hin).mono ?_
    rintro e w' ⟨rfl, h3, h4⟩
    exact ⟨rfl, ⟨_, h3⟩, h4⟩
  · unfold pushI
    rw [if_neg h, Bool.eq_false_iff.2 h]
    have h' : i < 0 ∨ (n : Int) ≤ i ∨ inB n lk i = true := by
      unfold okP at h
      simp only [Bool.and_eq_true, decide_eq_true_eq, Bool.not_eq_true', not_and, Bool.not_eq_false] at h
      by_cases h0 : i < 0
      · exact .inl h0
      · by_cases h1 : (n : Int) ≤ i
        · exact .inr (.inl h1)
        · exact .inr (.inr (h ⟨by omega, by omega⟩))
    refine (push_no b bm bl n L lk w hA hn k1 k2 i h').mono ?_
    rintro e w' ⟨rfl, hb⟩
    exact ⟨rfl, ⟨lk, hA.ext hb⟩, only_of hb _⟩
set_option maxHeartbeats 8000000 in
set_option maxRecDepth 100000 in
theorem removeI_all (b bm bl n : Nat) (L : List ((Int × Int) × Nat)) (lk : Nat → Lk (Int × Int)) (w : World) (hA : ChAt w b bm bl n L lk) (hn : n ≤ 4096) (i : Int) :
    Calls Try.prog 9 #[.pointer (some ⟨b, 0, none⟩), .int .i64 i] w fun e w' => e = .returned (.bool (inB n lk i)) ∧ (∃ lk', ChAt w' b bm bl n (dropI L i) lk') ∧ Only (S2 bm bl) w w' := by
  by_cases h : 0 ≤ i
  · obtain ⟨j, rfl⟩ := Int.eq_ofNat_of_zero_le h
    unfold dropI
    rw [if_pos h]
    exact remove_all b bm bl n L lk w hA hn j
  · unfold dropI
    have hf : inB n lk i = false := by unfold inB; rw [if_neg (by omega)]
    rw [if_neg h, hf]
    refine (remove_no b bm bl n L lk w hA hn i hf).mono ?_
    rintro e w' ⟨rfl, hb⟩
    exact ⟨rfl, ⟨lk, hA.ext hb⟩, only_of hb _⟩

theorem wrap_succ {n : Nat} (h : n ≤ 1000000) : wrap64 ((n : Int) + 1) = (n : Int) + 1 := by unfold wrap64; omega
theorem no_more {R n : Nat} (h : n + 1 ≤ R) : decide ((R : Int) < (n : Int) + 1) = false := dec_f (by omega)
theorem rest_lt {F pre r : List Nat} {x R : Nat} (h : F = pre ++ x :: r) (hl : F.length ≤ R) : pre.length + 1 ≤ R := by
  rw [h] at hl
  simp at hl
  omega
/-- As many links say 'in' as there are things. -/
theorem cnt_inn {z : Int × Int} {n : Nat} {L : List ((Int × Int) × Nat)} {lk : Nat → Lk (Int × Int)} {hd : Int × Int → Option (Int × Int × Int)} (h : Rep z n L lk hd) : cntB (fun i => (lk i).inn) n = L.length := by
  have hin : ∀ i : Nat, (lk i).inn = true ↔ i ∈ L.map (·.2) := by
    intro i
    by_cases hi : i ∈ L.map (·.2)
    · obtain ⟨p, hp, rfl⟩ := List.mem_map.1 hi
      obtain ⟨A, B, hAB⟩ := List.append_of_mem (mem_ofK.2 (show (p.1, p.2) ∈ L from hp))
      rw [h.link _ A _ B hAB]
      simp [hi]
    · have := h.out i (fun p hp e => hi (List.mem_map.2 ⟨p, hp, e⟩))
      rw [this]
      simp [hi]
  have h1 : L.length = (L.map (·.2)).length := by simp
  rw [h1]
  unfold cntB
  apply Nat.le_antisymm
  · exact nodup_le (List.nodup_range.sublist List.filter_sublist) fun x hx => (hin x).1 (List.mem_filter.1 hx).2
  · refine nodup_le h.nd fun x hx => List.mem_filter.2 ⟨?_, (hin x).2 hx⟩
    obtain ⟨p, hp, rfl⟩ := List.mem_map.1 hx
    exact List.mem_range.2 (h.lt p hp)
theorem L_le {z : Int × Int} {n : Nat} {L : List ((Int × Int) × Nat)} {lk : Nat → Lk (Int × Int)} {hd : Int × Int → Option (Int × Int × Int)} (h : Rep z n L lk hd) : L.length ≤ n := by
  have h1 : L.length = (L.map (·.2)).length := by simp
  rw [h1]
  have := nodup_le (m := List.range n) h.nd fun x hx => by
    obtain ⟨p, hp, rfl⟩ := List.mem_map.1 hx
    exact List.mem_range.2 (h.lt p hp)
  rwa [List.length_range] at this
/-- What Key answers of any thing. -/
theorem inB_nat {n : Nat} {lk : Nat → Lk (Int × Int)} {j : Nat} (h : j < n) : inB n lk (j : Int) = (lk j).inn := by
  unfold inB; rw [if_pos ⟨by omega, by omega⟩, Int.toNat_natCast]
def keyZ (n : Nat) (lk : Nat → Lk (Int × Int)) (i : Int) : Int × Int := if inB n lk i = true then (lk i.toNat).key else (0, 0)
set_option maxHeartbeats 8000000 in
set_option maxRecDepth 100000 in
theorem key_all (b bm bl n : Nat) (L : List ((Int × Int) × Nat)) (lk : Nat → Lk (Int × Int)) (w : World) (hA : ChAt w b bm bl n L lk) (hn : n ≤ 4096) (i : Int) :
    Calls Try.prog 12 #[.pointer (some ⟨b, 0, none⟩), .int .i64 i] w fun e w' => e = .returned (.tuple #[ek (keyZ n lk i), .bool (inB n lk i)]) ∧ Below w.heap.size w w' := by
  unfold keyZ
  cases h : inB n lk i with
  | true => rw [if_pos rfl]; exact key_yes b bm bl n L lk w hA hn i h
  | false => rw [if_neg (by simp)]; exact key_no b bm bl n L lk w hA hn i h
set_option maxHeartbeats 32000000 in
set_option maxRecDepth 100000 in
theorem ChainGoes_walk (rm : Int) (a : Option Addr) (len cap : Nat) (W : World) (_ : -9223372036854775808 ≤ rm) (_ : rm ≤ 9223372036854775807) (hf : Fit1 W (.slice actSh) (.slice a len cap)) :
    Calls Try.prog 3 #[.int .i64 rm, .slice a len cap] W fun e w' => e = .returned (.bool true) ∧ Below W.heap.size W w' := by
  have HFIT := Lib.hid (fun i (hi : i < len) => act_at hf hi)
  clear hf
  obtain ⟨u, hu, u0, u1⟩ : ∃ u, IntKind.u64.wrap rm = u ∧ 0 ≤ u ∧ u ≤ 18446744073709551615 := ⟨_, rfl, by rw [IntKind.wrap_u64]; omega, by rw [IntKind.wrap_u64]; omega⟩
  obtain ⟨Q, hQ, q0, q1⟩ : ∃ Q, u % 40 = Q ∧ 0 ≤ Q ∧ Q < 40 := ⟨_, rfl, by omega, by omega⟩
  obtain ⟨R, hR, R1, R2⟩ : ∃ R : Nat, 1 + Q = (R : Int) ∧ 1 ≤ R ∧ R ≤ 40 := ⟨(1 + Q).toNat, by omega, by omega, by omega⟩
  go_enter Try.func3, Try.ntmps3
  go_upto_region 3 with (go_at_call 7; refine (new_any R _ R1 (by omega)).mono ?_; rintro e w1 ⟨b, bm, bl, rfl, hg, hA, hB⟩)
  have hR4 : R ≤ 4096 := Nat.le_trans R2 (by decide)
  clear hu u0 u1 hQ q0 q1 hR
  have HG := Lib.hid hg
  have HA0 := Lib.hid hA
  have HB0 := Lib.hid hB
  clear hg hA hB
  go_upto_region 6 with fail
  go_loopw [7] (fun i wr => ∃ (j : Nat) (L : List ((Int × Int) × Nat)) (lk : Nat → Lk (Int × Int)), j ≤ 80 ∧ i = .int .i64 j ∧ ChAt wr b bm bl R L lk ∧ Below W.heap.size W wr) (fun i _ => 80 - (intOf i).toNat)
  case atStart => exact ⟨0, _, _, by omega, rfl, HA0.out, HB0.out⟩
  case round =>
    clear HA0 HB0
    obtain ⟨j, L, lk, hj, rfl, hA, hB⟩ := hrel
    by_cases hlt : j < len ∧ j < 80
    · obtain ⟨hl1, hl2⟩ := hlt
      obtain ⟨ba, oa, k, n, k1, k2, rfl, hba, n0, n1, q0, q1, q2, q3⟩ := HFIT.out j hl1
      have qa0 := (hB.cell (p := ⟨ba, oa + j * 4, none⟩) hba).trans q0
      have qa1 := (hB.cell (p := ⟨ba, oa + j * 4 + 1, none⟩) hba).trans q1
      have qa2 := (hB.cell (p := ⟨ba, oa + j * 4 + 2, none⟩) hba).trans q2
      have qa3 := (hB.cell (p := ⟨ba, oa + j * 4 + 3, none⟩) hba).trans q3
      obtain ⟨bx, hbx⟩ : ∃ bx, wr.heap.size = bx := ⟨_, rfl⟩
      have hX' : RowAt (wr.alloc (.cells #[.int .i64 k, .int .i64 n, .int .i64 k1, .int .i64 k2] 30)) bx #[.int .i64 k, .int .i64 n, .int .i64 k1, .int .i64 k2] 30 := by rw [← hbx]; exact RowAt.new _ _ _
      have HA0 := Lib.hid (ChAt.ext hA (below_new (Below.refl _ _) (.cells #[.int .i64 k, .int .i64 n, .int .i64 k1, .int .i64 k2] 30)))
      have HB0 := Lib.hid (below_new hB (.cells #[.int .i64 k, .int .i64 n, .int .i64 k1, .int .i64 k2] 30))
      have HX0 := Lib.hid hX'
      have HNE := Lib.hid (show bm < bx ∧ bl < bx by obtain ⟨M, c, cp, q⟩ := hA; have h1 := q.m.lt; have h2 := q.lks.lt; omega)
      clear q0 q1 q2 q3 hA hB hX'
      have g1 : decide ((j : Int) < (len : Int)) = true := dec_t (by omega)
      have g1' : decide (j < len) = true := dec_t hl1
      have g80 : decide ((j : Int) < 80) = true := by simp; omega
      have hj0 : (j : Int) < (len : Int) := by omega
      go_upto_region 9 with fail
      refine wp_name (Pr := fun V => ChAt V b bm bl R L lk ∧ RowAt V bx #[.int .i64 k, .int .i64 n, .int .i64 k1, .int .i64 k2] 30 ∧ Below W.heap.size W V) ⟨HA0.out, HX0.out, HB0.out⟩ ?_
      clear HA0 HB0 HX0 qa0 qa1 qa2 qa3 hbx
      rintro W2 ⟨hA, hX, hB⟩
      have HA := Lib.hid hA
      have HX := Lib.hid hX
      have HB := Lib.hid hB
      clear hA hX hB
      have x0 := RowAt.cell HX.out (i := 0) rfl
      have x1 := RowAt.cell HX.out (i := 1) rfl
      have x2 := RowAt.cell HX.out (i := 2) rfl
      have x3 := RowAt.cell HX.out (i := 3) rfl
      by_cases k0 : k = 0
      · have d0 : (k == 0) = true := beq_t k0
        clear k0
        go_upto_region 15 with (go_at_call 8; refine (push_all b bm bl R L lk _ HA.out hR4 k1 k2 n).mono ?_; rintro e w2 ⟨rfl, ⟨lk2, hA2⟩, hO2⟩)
        have hX2 := RowAt.only HX.out hO2 (by rintro (q | q) <;> (have := HNE.out; omega))
        have hB2 := only_new HB.out hO2 HG.out.2.1 HG.out.2.2
        have HA := Lib.hid hA2
        have HX := Lib.hid hX2
        have HB := Lib.hid hB2
        clear hA2 hX2 hB2 hO2
        obtain ⟨L, hL⟩ : ∃ L', pushI R lk L (k1, k2) n = L' := ⟨_, rfl⟩
        rw [hL] at HA
        obtain ⟨lk, hlk⟩ : ∃ l, lk2 = l := ⟨_, rfl⟩
        rw [hlk] at HA
        clear hL hlk
        clear x0 x1 x2 x3
        have x2 := RowAt.cell HX.out (i := 2) rfl
        have x3 := RowAt.cell HX.out (i := 3) rfl
        have HQ : Hid (∃ hd, Rep (0, 0) R L lk hd) := Lib.hid (by obtain ⟨M, c, cp, q⟩ := HA.out; exact ⟨_, q.rep⟩)
        have HLE := Lib.hid (show (ofK L (k1, k2)).length ≤ R by obtain ⟨hd, q⟩ := HQ.out; exact len_le q _)
        go_upto_region 17 with (go_at_call 10; refine (first_any b bm bl R L lk _ HA.out (k1, k2)).mono ?_; rintro e w3 ⟨rfl, hb3⟩)
        have HA3 := Lib.hid (ChAt.ext HA.out hb3)
        have HX3 := Lib.hid (RowAt.ext HX.out hb3)
        have HB3 := Lib.hid (below_then HB.out hb3)
        clear HA HX HB x2 x3 hb3
        go_loopw [9, 10] (fun m x wr => ∃ pre rest : List Nat, m = .int .i64 (pre.length : Int) ∧ x = .int .i64 (headI rest) ∧ ofK L (k1, k2) = pre ++ rest ∧ ChAt wr b bm bl R L lk ∧ RowAt wr bx #[.int .i64 k, .int .i64 n, .int .i64 k1, .int .i64 k2] 30 ∧ Below W.heap.size W wr) (fun m _ _ => (ofK L (k1, k2)).length - (intOf m).toNat)
        case atStart => exact ⟨[], _, rfl, rfl, rfl, HA3.out, HX3.out, HB3.out⟩
        case round =>
          clear HA3 HX3 HB3
          obtain ⟨pre, rest, rfl, rfl, hpr, hA, hX, hB⟩ := hrel
          have HA := Lib.hid hA
          have HX := Lib.hid hX
          have HB := Lib.hid hB
          have HP := Lib.hid hpr
          clear hA hX hB hpr
          cases rest with
          | cons x r =>
            have e1 : headI (x :: r) = (x : Int) := rfl
            rw [e1]
            have d1 : decide (0 ≤ (x : Int)) = true := dec_t (by omega)
            have hx : lk x = ⟨(k1, k2), true, lastI pre, headI r⟩ ∧ x < R := by
              obtain ⟨hd, q⟩ := HQ.out
              exact ⟨q.link _ pre x r HP.out, q.lt _ (mem_ofK.1 (show x ∈ ofK L (k1, k2) by rw [HP.out]; simp))⟩
            have hin : inB R lk (x : Int) = true := by rw [inB_nat hx.2, hx.1]
            have hkz : keyZ R lk (x : Int) = (k1, k2) := by unfold keyZ; rw [if_pos hin, Int.toNat_natCast, hx.1]
            have hnx : nextI R lk (x : Int) = headI r := by unfold nextI; rw [if_pos hin, Int.toNat_natCast, hx.1]
            have hky := key_all b bm bl R L lk wr HA.out hR4 (x : Int)
            rw [hkz, hin] at hky
            unfold ek at hky
            have hnn := fun w h => next_any b bm bl R L lk w h hR4 (x : Int)
            rw [hnx] at hnn
            have HKY := Lib.hid hky
            have HNN := Lib.hid hnn
            have x2 : ∀ w', Below wr.heap.size wr w' → w'.cell? ⟨bx, 2, none⟩ = some (.int .i64 k1) := fun w' h => (RowAt.ext HX.out h).cell (i := 2) rfl
            have x3 : ∀ w', Below wr.heap.size wr w' → w'.cell? ⟨bx, 3, none⟩ = some (.int .i64 k2) := fun w' h => (RowAt.ext HX.out h).cell (i := 3) rfl
            have HXX := Lib.hid (And.intro x2 x3)
            have hneq := neq_same k1 k2
            have hpl : pre.length + 1 ≤ R := rest_lt HP.out HLE.out
            have w1 := wrap_succ (show pre.length ≤ 1000000 from Nat.le_trans (Nat.le_of_succ_le hpl) (Nat.le_trans R2 (by decide)))
            have d2 := no_more hpl
            have HPL := Lib.hid hpl
            clear hx hin hkz hnx hky hnn x2 x3 hpl
            go_upto_region 20 with (go_at_call 12; refine HKY.out.mono ?_; rintro e w4 ⟨rfl, hb4⟩)
            have HB4 := Lib.hid hb4
            refine wp_name (Pr := fun V => RowAt V w4.heap.size #[.int .i64 k1, .int .i64 k2] 28 ∧ Below wr.heap.size wr V) ⟨RowAt.new w4 _ _, below_new hb4 _⟩ ?_
            clear hb4 HKY
            rintro V ⟨hK, hV⟩
            have y0 := hK.cell (i := 0) rfl
            have y1 := hK.cell (i := 1) rfl
            have x2 := HXX.out.1 V hV
            have x3 := HXX.out.2 V hV
            have HV := Lib.hid hV
            clear hK hV
            go_upto_region 18 with (first | simp only [hneq] | fail)
            have hA5 := ChAt.ext HA.out HV.out
            go_wp2_with (go_at_call 11; refine (HNN.out _ hA5).mono ?_; rintro e w5 ⟨rfl, rfl⟩)
            go_roundw
            case measure =>
              have := HPL.out
              have h2 : (ofK L (k1, k2)).length = pre.length + (r.length + 1) := by rw [HP.out]; simp
              show (ofK L (k1, k2)).length - ((pre.length : Int) + 1).toNat < (ofK L (k1, k2)).length - ((pre.length : Int)).toNat
              omega
            case rel => exact ⟨pre ++ [x], r, by simp, rfl, by rw [HP.out]; simp, hA5, RowAt.ext HX.out HV.out, below_then HB.out HV.out⟩
          | nil =>
            have e1 : headI [] = -1 := rfl
            rw [e1]
            have hlen : ((pre.length : Int) != ((ofK L (k1, k2)).length : Int)) = false := by rw [HP.out]; simp
            have HLEN := Lib.hid hlen
            clear hlen
            go_upto_region 25 with fail
            go_loopw [13, 14] (fun m x wr => ∃ t : Nat, t ≤ R ∧ x = .int .i64 (t : Int) ∧ m = .int .i64 (cntB (fun i => (lk i).inn) t : Int) ∧ ChAt wr b bm bl R L lk ∧ RowAt wr bx #[.int .i64 k, .int .i64 n, .int .i64 k1, .int .i64 k2] 30 ∧ Below W.heap.size W wr) (fun _ x _ => R - (intOf x).toNat)
            case atStart => exact ⟨0, by omega, rfl, rfl, HA.out, HX.out, HB.out⟩
            case round =>
              clear HA HX HB
              obtain ⟨t, ht, rfl, rfl, hA, hX, hB⟩ := hrel
              have HA := Lib.hid hA
              have HX := Lib.hid hX
              have HB := Lib.hid hB
              clear hA hX hB
              by_cases htl : t < R
              · have d1 : decide ((t : Int) < (R : Int)) = true := dec_t (by omega)
                have hky := key_all b bm bl R L lk _ HA.out hR4 (t : Int)
                rw [inB_nat htl] at hky
                obtain ⟨⟨z1, z2⟩, hz⟩ : ∃ z, keyZ R lk (t : Int) = z := ⟨_, rfl⟩
                rw [hz] at hky
                unfold ek at hky
                have hcs := cntB_succ (fun i => (lk i).inn) t
                have hcl := cntB_le (fun i => (lk i).inn) t
                have w1 := wrap_succ (show cntB (fun i => (lk i).inn) t ≤ 1000000 by omega)
                obtain ⟨inn, hinn⟩ : ∃ x, (lk t).inn = x := ⟨_, rfl⟩
                rw [hinn] at hky
                have HKY := Lib.hid hky
                have HCS := Lib.hid (And.intro hcs hinn)
                have HCL := Lib.hid hcl
                have HW1 := Lib.hid w1
                clear hky hcs hinn hz hcl
                cases inn with
                | true =>
                  go_upto_region 28 with (go_at_call 12; refine HKY.out.mono ?_; rintro e w4 ⟨rfl, hb4⟩)
                  have HB4 := Lib.hid (below_new hb4 (.cells #[.int .i64 z1, .int .i64 z2] 28 ))
                  clear hb4
                  go_wp2_with fail
                  go_roundw
                  case measure => simp [intOf]; omega
                  case rel =>
                    refine ⟨t + 1, by omega, by simp, ?_, ChAt.ext HA.out HB4.out, RowAt.ext HX.out HB4.out, below_then HB.out HB4.out⟩
                    have h1 := HCS.out.1
                    have h2 := HCS.out.2
                    try dsimp only at h1
                    rw [h2, if_pos rfl] at h1
                    rw [h1]
                    have h3 := HW1.out
                    first | rfl | (rw [h3]; rfl)
                | false =>
                  go_upto_region 28 with (go_at_call 12; refine HKY.out.mono ?_; rintro e w4 ⟨rfl, hb4⟩)
                  have HB4 := Lib.hid (below_new hb4 (.cells #[.int .i64 z1, .int .i64 z2] 28 ))
                  clear hb4
                  go_wp2_with fail
                  go_roundw
                  case measure => simp [intOf]; omega
                  case rel =>
                    refine ⟨t + 1, by omega, by simp, ?_, ChAt.ext HA.out HB4.out, RowAt.ext HX.out HB4.out, below_then HB.out HB4.out⟩
                    have h1 := HCS.out.1
                    have h2 := HCS.out.2
                    try dsimp only at h1
                    rw [h2, if_neg (by simp)] at h1
                    rw [h1]
                    rfl
              · obtain rfl : t = R := by omega
                have d1 : decide ((t : Int) < (t : Int)) = false := dec_f (by omega)
                have hcn : cntB (fun i => (lk i).inn) t = L.length := by obtain ⟨hd, q⟩ := HQ.out; exact cnt_inn q
                have hL4 : L.length ≤ 4096 := by obtain ⟨hd, q⟩ := HQ.out; have := L_le q; omega
                rw [hcn]
                have HL4 := Lib.hid hL4
                have x2 := RowAt.cell HX.out (i := 2) rfl
                have x3 := RowAt.cell HX.out (i := 3) rfl
                have hlen := HLEN.out
                clear hcn hL4
                have hj80 : (j : Int) + 1 ≤ 80 := by omega
                go_wp2_with (first | (go_at_call 13; refine (len_any b bm bl t L lk _ HA.out (k1, k2)).mono ?_; rintro e w6 ⟨rfl, hb6⟩) | (go_at_call 14; refine (total_any b bm bl t L lk _ (ChAt.ext HA.out hb6) HL4.out).mono ?_; rintro e w7 ⟨rfl, hb7⟩))
                go_roundw
                case measure => simp [intOf]; omega
                case rel => exact ⟨j + 1, L, lk, by omega, by simp, ChAt.ext HA.out (below_then hb6 hb7), below_then HB.out (below_then hb6 hb7)⟩
      · have d0 : (k == 0) = false := beq_f k0
        clear k0
        by_cases k2' : k = 2
        · have d2 : (k == 2) = true := beq_t k2'
          clear k2'
          go_upto_region 15 with (go_at_call 8; refine (push_all b bm bl R L lk _ HA.out hR4 k1 k2 n).mono ?_; rintro e w2 ⟨rfl, ⟨lk2, hA2⟩, hO2⟩)
          have hX2 := RowAt.only HX.out hO2 (by rintro (q | q) <;> (have := HNE.out; omega))
          have hB2 := only_new HB.out hO2 HG.out.2.1 HG.out.2.2
          have HA := Lib.hid hA2
          have HX := Lib.hid hX2
          have HB := Lib.hid hB2
          clear hA2 hX2 hB2 hO2
          obtain ⟨L, hL⟩ : ∃ L', pushI R lk L (k1, k2) n = L' := ⟨_, rfl⟩
          rw [hL] at HA
          obtain ⟨lk, hlk⟩ : ∃ l, lk2 = l := ⟨_, rfl⟩
          rw [hlk] at HA
          clear hL hlk
          clear x0 x1 x2 x3
          have x2 := RowAt.cell HX.out (i := 2) rfl
          have x3 := RowAt.cell HX.out (i := 3) rfl
          have HQ : Hid (∃ hd, Rep (0, 0) R L lk hd) := Lib.hid (by obtain ⟨M, c, cp, q⟩ := HA.out; exact ⟨_, q.rep⟩)
          have HLE := Lib.hid (show (ofK L (k1, k2)).length ≤ R by obtain ⟨hd, q⟩ := HQ.out; exact len_le q _)
          go_upto_region 17 with (go_at_call 10; refine (first_any b bm bl R L lk _ HA.out (k1, k2)).mono ?_; rintro e w3 ⟨rfl, hb3⟩)
          have HA3 := Lib.hid (ChAt.ext HA.out hb3)
          have HX3 := Lib.hid (RowAt.ext HX.out hb3)
          have HB3 := Lib.hid (below_then HB.out hb3)
          clear HA HX HB x2 x3 hb3
          go_loopw [9, 10] (fun m x wr => ∃ pre rest : List Nat, m = .int .i64 (pre.length : Int) ∧ x = .int .i64 (headI rest) ∧ ofK L (k1, k2) = pre ++ rest ∧ ChAt wr b bm bl R L lk ∧ RowAt wr bx #[.int .i64 k, .int .i64 n, .int .i64 k1, .int .i64 k2] 30 ∧ Below W.heap.size W wr) (fun m _ _ => (ofK L (k1, k2)).length - (intOf m).toNat)
          case atStart => exact ⟨[], _, rfl, rfl, rfl, HA3.out, HX3.out, HB3.out⟩
          case round =>
            clear HA3 HX3 HB3
            obtain ⟨pre, rest, rfl, rfl, hpr, hA, hX, hB⟩ := hrel
            have HA := Lib.hid hA
            have HX := Lib.hid hX
            have HB := Lib.hid hB
            have HP := Lib.hid hpr
            clear hA hX hB hpr
            cases rest with
            | cons x r =>
              have e1 : headI (x :: r) = (x : Int) := rfl
              rw [e1]
              have d1 : decide (0 ≤ (x : Int)) = true := dec_t (by omega)
              have hx : lk x = ⟨(k1, k2), true, lastI pre, headI r⟩ ∧ x < R := by
                obtain ⟨hd, q⟩ := HQ.out
                exact ⟨q.link _ pre x r HP.out, q.lt _ (mem_ofK.1 (show x ∈ ofK L (k1, k2) by rw [HP.out]; simp))⟩
              have hin : inB R lk (x : Int) = true := by rw [inB_nat hx.2, hx.1]
              have hkz : keyZ R lk (x : Int) = (k1, k2) := by unfold keyZ; rw [if_pos hin, Int.toNat_natCast, hx.1]
              have hnx : nextI R lk (x : Int) = headI r := by unfold nextI; rw [if_pos hin, Int.toNat_natCast, hx.1]
              have hky := key_all b bm bl R L lk wr HA.out hR4 (x : Int)
              rw [hkz, hin] at hky
              unfold ek at hky
              have hnn := fun w h => next_any b bm bl R L lk w h hR4 (x : Int)
              rw [hnx] at hnn
              have HKY := Lib.hid hky
              have HNN := Lib.hid hnn
              have x2 : ∀ w', Below wr.heap.size wr w' → w'.cell? ⟨bx, 2, none⟩ = some (.int .i64 k1) := fun w' h => (RowAt.ext HX.out h).cell (i := 2) rfl
              have x3 : ∀ w', Below wr.heap.size wr w' → w'.cell? ⟨bx, 3, none⟩ = some (.int .i64 k2) := fun w' h => (RowAt.ext HX.out h).cell (i := 3) rfl
              have HXX := Lib.hid (And.intro x2 x3)
              have hneq := neq_same k1 k2
              have hpl : pre.length + 1 ≤ R := rest_lt HP.out HLE.out
              have w1 := wrap_succ (show pre.length ≤ 1000000 from Nat.le_trans (Nat.le_of_succ_le hpl) (Nat.le_trans R2 (by decide)))
              have d2 := no_more hpl
              have HPL := Lib.hid hpl
              clear hx hin hkz hnx hky hnn x2 x3 hpl
              go_upto_region 20 with (go_at_call 12; refine HKY.out.mono ?_; rintro e w4 ⟨rfl, hb4⟩)
              have HB4 := Lib.hid hb4
              refine wp_name (Pr := fun V => RowAt V w4.heap.size #[.int .i64 k1, .int .i64 k2] 28 ∧ Below wr.heap.size wr V) ⟨RowAt.new w4 _ _, below_new hb4 _⟩ ?_
              clear hb4 HKY
              rintro V ⟨hK, hV⟩
              have y0 := hK.cell (i := 0) rfl
              have y1 := hK.cell (i := 1) rfl
              have x2 := HXX.out.1 V hV
              have x3 := HXX.out.2 V hV
              have HV := Lib.hid hV
              clear hK hV
              go_upto_region 18 with (first | simp only [hneq] | fail)
              have hA5 := ChAt.ext HA.out HV.out
              go_wp2_with (go_at_call 11; refine (HNN.out _ hA5).mono ?_; rintro e w5 ⟨rfl, rfl⟩)
              go_roundw
              case measure =>
                have := HPL.out
                have h2 : (ofK L (k1, k2)).length = pre.length + (r.length + 1) := by rw [HP.out]; simp
                show (ofK L (k1, k2)).length - ((pre.length : Int) + 1).toNat < (ofK L (k1, k2)).length - ((pre.length : Int)).toNat
                omega
              case rel => exact ⟨pre ++ [x], r, by simp, rfl, by rw [HP.out]; simp, hA5, RowAt.ext HX.out HV.out, below_then HB.out HV.out⟩
            | nil =>
              have e1 : headI [] = -1 := rfl
              rw [e1]
              have hlen : ((pre.length : Int) != ((ofK L (k1, k2)).length : Int)) = false := by rw [HP.out]; simp
              have HLEN := Lib.hid hlen
              clear hlen
              go_upto_region 25 with fail
              go_loopw [13, 14] (fun m x wr => ∃ t : Nat, t ≤ R ∧ x = .int .i64 (t : Int) ∧ m = .int .i64 (cntB (fun i => (lk i).inn) t : Int) ∧ ChAt wr b bm bl R L lk ∧ RowAt wr bx #[.int .i64 k, .int .i64 n, .int .i64 k1, .int .i64 k2] 30 ∧ Below W.heap.size W wr) (fun _ x _ => R - (intOf x).toNat)
              case atStart => exact ⟨0, by omega, rfl, rfl, HA.out, HX.out, HB.out⟩
              case round =>
                clear HA HX HB
                obtain ⟨t, ht, rfl, rfl, hA, hX, hB⟩ := hrel
                have HA := Lib.hid hA
                have HX := Lib.hid hX
                have HB := Lib.hid hB
                clear hA hX hB
                by_cases htl : t < R
                · have d1 : decide ((t : Int) < (R : Int)) = true := dec_t (by omega)
                  have hky := key_all b bm bl R L lk _ HA.out hR4 (t : Int)
                  rw [inB_nat htl] at hky
                  obtain ⟨⟨z1, z2⟩, hz⟩ : ∃ z, keyZ R lk (t : Int) = z := ⟨_, rfl⟩
                  rw [hz] at hky
                  unfold ek at hky
                  have hcs := cntB_succ (fun i => (lk i).inn) t
                  have hcl := cntB_le (fun i => (lk i).inn) t
                  have w1 := wrap_succ (show cntB (fun i => (lk i).inn) t ≤ 1000000 by omega)
                  obtain ⟨inn, hinn⟩ : ∃ x, (lk t).inn = x := ⟨_, rfl⟩
                  rw [hinn] at hky
                  have HKY := Lib.hid hky
                  have HCS := Lib.hid (And.intro hcs hinn)
                  have HCL := Lib.hid hcl
                  have HW1 := Lib.hid w1
                  clear hky hcs hinn hz hcl
                  cases inn with
                  | true =>
                    go_upto_region 28 with (go_at_call 12; refine HKY.out.mono ?_; rintro e w4 ⟨rfl, hb4⟩)
                    have HB4 := Lib.hid (below_new hb4 (.cells #[.int .i64 z1, .int .i64 z2] 28 ))
                    clear hb4
                    go_wp2_with fail
                    go_roundw
                    case measure => simp [intOf]; omega
                    case rel =>
                      refine ⟨t + 1, by omega, by simp, ?_, ChAt.ext HA.out HB4.out, RowAt.ext HX.out HB4.out, below_then HB.out HB4.out⟩
                      have h1 := HCS.out.1
                      have h2 := HCS.out.2
                      try dsimp only at h1
                      rw [h2, if_pos rfl] at h1
                      rw [h1]
                      have h3 := HW1.out
                      first | rfl | (rw [h3]; rfl)
                  | false =>
                    go_upto_region 28 with (go_at_call 12; refine HKY.out.mono ?_; rintro e w4 ⟨rfl, hb4⟩)
                    have HB4 := Lib.hid (below_new hb4 (.cells #[.int .i64 z1, .int .i64 z2] 28 ))
                    clear hb4
                    go_wp2_with fail
                    go_roundw
                    case measure => simp [intOf]; omega
                    case rel =>
                      refine ⟨t + 1, by omega, by simp, ?_, ChAt.ext HA.out HB4.out, RowAt.ext HX.out HB4.out, below_then HB.out HB4.out⟩
                      have h1 := HCS.out.1
                      have h2 := HCS.out.2
                      try dsimp only at h1
                      rw [h2, if_neg (by simp)] at h1
                      rw [h1]
                      rfl
                · obtain rfl : t = R := by omega
                  have d1 : decide ((t : Int) < (t : Int)) = false := dec_f (by omega)
                  have hcn : cntB (fun i => (lk i).inn) t = L.length := by obtain ⟨hd, q⟩ := HQ.out; exact cnt_inn q
                  have hL4 : L.length ≤ 4096 := by obtain ⟨hd, q⟩ := HQ.out; have := L_le q; omega
                  rw [hcn]
                  have HL4 := Lib.hid hL4
                  have x2 := RowAt.cell HX.out (i := 2) rfl
                  have x3 := RowAt.cell HX.out (i := 3) rfl
                  have hlen := HLEN.out
                  clear hcn hL4
                  have hj80 : (j : Int) + 1 ≤ 80 := by omega
                  go_wp2_with (first | (go_at_call 13; refine (len_any b bm bl t L lk _ HA.out (k1, k2)).mono ?_; rintro e w6 ⟨rfl, hb6⟩) | (go_at_call 14; refine (total_any b bm bl t L lk _ (ChAt.ext HA.out hb6) HL4.out).mono ?_; rintro e w7 ⟨rfl, hb7⟩))
                  go_roundw
                  case measure => simp [intOf]; omega
                  case rel => exact ⟨j + 1, L, lk, by omega, by simp, ChAt.ext HA.out (below_then hb6 hb7), below_then HB.out (below_then hb6 hb7)⟩
        · have d2 : (k == 2) = false := beq_f k2'
          clear k2'
          by_cases k1' : k = 1
          · have d3 : (k == 1) = true := beq_t k1'
            clear k1'
            go_upto_region 15 with (go_at_call 9; refine (removeI_all b bm bl R L lk _ HA.out hR4 n).mono ?_; rintro e w2 ⟨rfl, ⟨lk2, hA2⟩, hO2⟩)
            have hX2 := RowAt.only HX.out hO2 (by rintro (q | q) <;> (have := HNE.out; omega))
            have hB2 := only_new HB.out hO2 HG.out.2.1 HG.out.2.2
            have HA := Lib.hid hA2
            have HX := Lib.hid hX2
            have HB := Lib.hid hB2
            clear hA2 hX2 hB2 hO2
            obtain ⟨L, hL⟩ : ∃ L', dropI L n = L' := ⟨_, rfl⟩
            rw [hL] at HA
            obtain ⟨lk, hlk⟩ : ∃ l, lk2 = l := ⟨_, rfl⟩
            rw [hlk] at HA
            clear hL hlk
            clear x0 x1 x2 x3
            have x2 := RowAt.cell HX.out (i := 2) rfl
            have x3 := RowAt.cell HX.out (i := 3) rfl
            have HQ : Hid (∃ hd, Rep (0, 0) R L lk hd) := Lib.hid (by obtain ⟨M, c, cp, q⟩ := HA.out; exact ⟨_, q.rep⟩)
            have HLE := Lib.hid (show (ofK L (k1, k2)).length ≤ R by obtain ⟨hd, q⟩ := HQ.out; exact len_le q _)
            go_upto_region 17 with (go_at_call 10; refine (first_any b bm bl R L lk _ HA.out (k1, k2)).mono ?_; rintro e w3 ⟨rfl, hb3⟩)
            have HA3 := Lib.hid (ChAt.ext HA.out hb3)
            have HX3 := Lib.hid (RowAt.ext HX.out hb3)
            have HB3 := Lib.hid (below_then HB.out hb3)
            clear HA HX HB x2 x3 hb3
            go_loopw [9, 10] (fun m x wr => ∃ pre rest : List Nat, m = .int .i64 (pre.length : Int) ∧ x = .int .i64 (headI rest) ∧ ofK L (k1, k2) = pre ++ rest ∧ ChAt wr b bm bl R L lk ∧ RowAt wr bx #[.int .i64 k, .int .i64 n, .int .i64 k1, .int .i64 k2] 30 ∧ Below W.heap.size W wr) (fun m _ _ => (ofK L (k1, k2)).length - (intOf m).toNat)
            case atStart => exact ⟨[], _, rfl, rfl, rfl, HA3.out, HX3.out, HB3.out⟩
            case round =>
              clear HA3 HX3 HB3
              obtain ⟨pre, rest, rfl, rfl, hpr, hA, hX, hB⟩ := hrel
              have HA := Lib.hid hA
              have HX := Lib.hid hX
              have HB := Lib.hid hB
              have HP := Lib.hid hpr
              clear hA hX hB hpr
              cases rest with
              | cons x r =>
                have e1 : headI (x :: r) = (x : Int) := rfl
                rw [e1]
                have d1 : decide (0 ≤ (x : Int)) = true := dec_t (by omega)
                have hx : lk x = ⟨(k1, k2), true, lastI pre, headI r⟩ ∧ x < R := by
                  obtain ⟨hd, q⟩ := HQ.out
                  exact ⟨q.link _ pre x r HP.out, q.lt _ (mem_ofK.1 (show x ∈ ofK L (k1, k2) by rw [HP.out]; simp))⟩
                have hin : inB R lk (x : Int) = true := by rw [inB_nat hx.2, hx.1]
                have hkz : keyZ R lk (x : Int) = (k1, k2) := by unfold keyZ; rw [if_pos hin, Int.toNat_natCast, hx.1]
                have hnx : nextI R lk (x : Int) = headI r := by unfold nextI; rw [if_pos hin, Int.toNat_natCast, hx.1]
                have hky := key_all b bm bl R L lk wr HA.out hR4 (x : Int)
                rw [hkz, hin] at hky
                unfold ek at hky
                have hnn := fun w h => next_any b bm bl R L lk w h hR4 (x : Int)
                rw [hnx] at hnn
                have HKY := Lib.hid hky
                have HNN := Lib.hid hnn
                have x2 : ∀ w', Below wr.heap.size wr w' → w'.cell? ⟨bx, 2, none⟩ = some (.int .i64 k1) := fun w' h => (RowAt.ext HX.out h).cell (i := 2) rfl
                have x3 : ∀ w', Below wr.heap.size wr w' → w'.cell? ⟨bx, 3, none⟩ = some (.int .i64 k2) := fun w' h => (RowAt.ext HX.out h).cell (i := 3) rfl
                have HXX := Lib.hid (And.intro x2 x3)
                have hneq := neq_same k1 k2
                have hpl : pre.length + 1 ≤ R := rest_lt HP.out HLE.out
                have w1 := wrap_succ (show pre.length ≤ 1000000 from Nat.le_trans (Nat.le_of_succ_le hpl) (Nat.le_trans R2 (by decide)))
                have d2 := no_more hpl
                have HPL := Lib.hid hpl
                clear hx hin hkz hnx hky hnn x2 x3 hpl
                go_upto_region 20 with (go_at_call 12; refine HKY.out.mono ?_; rintro e w4 ⟨rfl, hb4⟩)
                have HB4 := Lib.hid hb4
                refine wp_name (Pr := fun V => RowAt V w4.heap.size #[.int .i64 k1, .int .i64 k2] 28 ∧ Below wr.heap.size wr V) ⟨RowAt.new w4 _ _, below_new hb4 _⟩ ?_
                clear hb4 HKY
                rintro V ⟨hK, hV⟩
                have y0 := hK.cell (i := 0) rfl
                have y1 := hK.cell (i := 1) rfl
                have x2 := HXX.out.1 V hV
                have x3 := HXX.out.2 V hV
                have HV := Lib.hid hV
                clear hK hV
                go_upto_region 18 with (first | simp only [hneq] | fail)
                have hA5 := ChAt.ext HA.out HV.out
                go_wp2_with (go_at_call 11; refine (HNN.out _ hA5).mono ?_; rintro e w5 ⟨rfl, rfl⟩)
                go_roundw
                case measure =>
                  have := HPL.out
                  have h2 : (ofK L (k1, k2)).length = pre.length + (r.length + 1) := by rw [HP.out]; simp
                  show (ofK L (k1, k2)).length - ((pre.length : Int) + 1).toNat < (ofK L (k1, k2)).length - ((pre.length : Int)).toNat
                  omega
                case rel => exact ⟨pre ++ [x], r, by simp, rfl, by rw [HP.out]; simp, hA5, RowAt.ext HX.out HV.out, below_then HB.out HV.out⟩
              | nil =>
                have e1 : headI [] = -1 := rfl
                rw [e1]
                have hlen : ((pre.length : Int) != ((ofK L (k1, k2)).length : Int)) = false := by rw [HP.out]; simp
                have HLEN := Lib.hid hlen
                clear hlen
                go_upto_region 25 with fail
                go_loopw [13, 14] (fun m x wr => ∃ t : Nat, t ≤ R ∧ x = .int .i64 (t : Int) ∧ m = .int .i64 (cntB (fun i => (lk i).inn) t : Int) ∧ ChAt wr b bm bl R L lk ∧ RowAt wr bx #[.int .i64 k, .int .i64 n, .int .i64 k1, .int .i64 k2] 30 ∧ Below W.heap.size W wr) (fun _ x _ => R - (intOf x).toNat)
                case atStart => exact ⟨0, by omega, rfl, rfl, HA.out, HX.out, HB.out⟩
                case round =>
                  clear HA HX HB
                  obtain ⟨t, ht, rfl, rfl, hA, hX, hB⟩ := hrel
                  have HA := Lib.hid hA
                  have HX := Lib.hid hX
                  have HB := Lib.hid hB
                  clear hA hX hB
                  by_cases htl : t < R
                  · have d1 : decide ((t : Int) < (R : Int)) = true := dec_t (by omega)
                    have hky := key_all b bm bl R L lk _ HA.out hR4 (t : Int)
                    rw [inB_nat htl] at hky
                    obtain ⟨⟨z1, z2⟩, hz⟩ : ∃ z, keyZ R lk (t : Int) = z := ⟨_, rfl⟩
                    rw [hz] at hky
                    unfold ek at hky
                    have hcs := cntB_succ (fun i => (lk i).inn) t
                    have hcl := cntB_le (fun i => (lk i).inn) t
                    have w1 := wrap_succ (show cntB (fun i => (lk i).inn) t ≤ 1000000 by omega)
                    obtain ⟨inn, hinn⟩ : ∃ x, (lk t).inn = x := ⟨_, rfl⟩
                    rw [hinn] at hky
                    have HKY := Lib.hid hky
                    have HCS := Lib.hid (And.intro hcs hinn)
                    have HCL := Lib.hid hcl
                    have HW1 := Lib.hid w1
                    clear hky hcs hinn hz hcl
                    cases inn with
                    | true =>
                      go_upto_region 28 with (go_at_call 12; refine HKY.out.mono ?_; rintro e w4 ⟨rfl, hb4⟩)
                      have HB4 := Lib.hid (below_new hb4 (.cells #[.int .i64 z1, .int .i64 z2] 28 ))
                      clear hb4
                      go_wp2_with fail
                      go_roundw
                      case measure => simp [intOf]; omega
                      case rel =>
                        refine ⟨t + 1, by omega, by simp, ?_, ChAt.ext HA.out HB4.out, RowAt.ext HX.out HB4.out, below_then HB.out HB4.out⟩
                        have h1 := HCS.out.1
                        have h2 := HCS.out.2
                        try dsimp only at h1
                        rw [h2, if_pos rfl] at h1
                        rw [h1]
                        have h3 := HW1.out
                        first | rfl | (rw [h3]; rfl)
                    | false =>
                      go_upto_region 28 with (go_at_call 12; refine HKY.out.mono ?_; rintro e w4 ⟨rfl, hb4⟩)
                      have HB4 := Lib.hid (below_new hb4 (.cells #[.int .i64 z1, .int .i64 z2] 28 ))
                      clear hb4
                      go_wp2_with fail
                      go_roundw
                      case measure => simp [intOf]; omega
                      case rel =>
                        refine ⟨t + 1, by omega, by simp, ?_, ChAt.ext HA.out HB4.out, RowAt.ext HX.out HB4.out, below_then HB.out HB4.out⟩
                        have h1 := HCS.out.1
                        have h2 := HCS.out.2
                        try dsimp only at h1
                        rw [h2, if_neg (by simp)] at h1
                        rw [h1]
                        rfl
                  · obtain rfl : t = R := by omega
                    have d1 : decide ((t : Int) < (t : Int)) = false := dec_f (by omega)
                    have hcn : cntB (fun i => (lk i).inn) t = L.length := by obtain ⟨hd, q⟩ := HQ.out; exact cnt_inn q
                    have hL4 : L.length ≤ 4096 := by obtain ⟨hd, q⟩ := HQ.out; have := L_le q; omega
                    rw [hcn]
                    have HL4 := Lib.hid hL4
                    have x2 := RowAt.cell HX.out (i := 2) rfl
                    have x3 := RowAt.cell HX.out (i := 3) rfl
                    have hlen := HLEN.out
                    clear hcn hL4
                    have hj80 : (j : Int) + 1 ≤ 80 := by omega
                    go_wp2_with (first | (go_at_call 13; refine (len_any b bm bl t L lk _ HA.out (k1, k2)).mono ?_; rintro e w6 ⟨rfl, hb6⟩) | (go_at_call 14; refine (total_any b bm bl t L lk _ (ChAt.ext HA.out hb6) HL4.out).mono ?_; rintro e w7 ⟨rfl, hb7⟩))
                    go_roundw
                    case measure => simp [intOf]; omega
                    case rel => exact ⟨j + 1, L, lk, by omega, by simp, ChAt.ext HA.out (below_then hb6 hb7), below_then HB.out (below_then hb6 hb7)⟩
          · have d3 : (k == 1) = false := beq_f k1'
            clear k1'
            go_upto_region 15 with fail
            clear x0 x1 x2 x3
            have x2 := RowAt.cell HX.out (i := 2) rfl
            have x3 := RowAt.cell HX.out (i := 3) rfl
            have HQ : Hid (∃ hd, Rep (0, 0) R L lk hd) := Lib.hid (by obtain ⟨M, c, cp, q⟩ := HA.out; exact ⟨_, q.rep⟩)
            have HLE := Lib.hid (show (ofK L (k1, k2)).length ≤ R by obtain ⟨hd, q⟩ := HQ.out; exact len_le q _)
            go_upto_region 17 with (go_at_call 10; refine (first_any b bm bl R L lk _ HA.out (k1, k2)).mono ?_; rintro e w3 ⟨rfl, hb3⟩)
            have HA3 := Lib.hid (ChAt.ext HA.out hb3)
            have HX3 := Lib.hid (RowAt.ext HX.out hb3)
            have HB3 := Lib.hid (below_then HB.out hb3)
            clear HA HX HB x2 x3 hb3
            go_loopw [9, 10] (fun m x wr => ∃ pre rest : List Nat, m = .int .i64 (pre.length : Int) ∧ x = .int .i64 (headI rest) ∧ ofK L (k1, k2) = pre ++ rest ∧ ChAt wr b bm bl R L lk ∧ RowAt wr bx #[.int .i64 k, .int .i64 n, .int .i64 k1, .int .i64 k2] 30 ∧ Below W.heap.size W wr) (fun m _ _ => (ofK L (k1, k2)).length - (intOf m).toNat)
            case atStart => exact ⟨[], _, rfl, rfl, rfl, HA3.out, HX3.out, HB3.out⟩
            case round =>
              clear HA3 HX3 HB3
              obtain ⟨pre, rest, rfl, rfl, hpr, hA, hX, hB⟩ := hrel
              have HA := Lib.hid hA
              have HX := Lib.hid hX
              have HB := Lib.hid hB
              have HP := Lib.hid hpr
              clear hA hX hB hpr
              cases rest with
              | cons x r =>
                have e1 : headI (x :: r) = (x : Int) := rfl
                rw [e1]
                have d1 : decide (0 ≤ (x : Int)) = true := dec_t (by omega)
                have hx : lk x = ⟨(k1, k2), true, lastI pre, headI r⟩ ∧ x < R := by
                  obtain ⟨hd, q⟩ := HQ.out
                  exact ⟨q.link _ pre x r HP.out, q.lt _ (mem_ofK.1 (show x ∈ ofK L (k1, k2) by rw [HP.out]; simp))⟩
                have hin : inB R lk (x : Int) = true := by rw [inB_nat hx.2, hx.1]
                have hkz : keyZ R lk (x : Int) = (k1, k2) := by unfold keyZ; rw [if_pos hin, Int.toNat_natCast, hx.1]
                have hnx : nextI R lk (x : Int) = headI r := by unfold nextI; rw [if_pos hin, Int.toNat_natCast, hx.1]
                have hky := key_all b bm bl R L lk wr HA.out hR4 (x : Int)
                rw [hkz, hin] at hky
                unfold ek at hky
                have hnn := fun w h => next_any b bm bl R L lk w h hR4 (x : Int)
                rw [hnx] at hnn
                have HKY := Lib.hid hky
                have HNN := Lib.hid hnn
                have x2 : ∀ w', Below wr.heap.size wr w' → w'.cell? ⟨bx, 2, none⟩ = some (.int .i64 k1) := fun w' h => (RowAt.ext HX.out h).cell (i := 2) rfl
                have x3 : ∀ w', Below wr.heap.size wr w' → w'.cell? ⟨bx, 3, none⟩ = some (.int .i64 k2) := fun w' h => (RowAt.ext HX.out h).cell (i := 3) rfl
                have HXX := Lib.hid (And.intro x2 x3)
                have hneq := neq_same k1 k2
                have hpl : pre.length + 1 ≤ R := rest_lt HP.out HLE.out
                have w1 := wrap_succ (show pre.length ≤ 1000000 from Nat.le_trans (Nat.le_of_succ_le hpl) (Nat.le_trans R2 (by decide)))
                have d2 := no_more hpl
                have HPL := Lib.hid hpl
                clear hx hin hkz hnx hky hnn x2 x3 hpl
                go_upto_region 20 with (go_at_call 12; refine HKY.out.mono ?_; rintro e w4 ⟨rfl, hb4⟩)
                have HB4 := Lib.hid hb4
                refine wp_name (Pr := fun V => RowAt V w4.heap.size #[.int .i64 k1, .int .i64 k2] 28 ∧ Below wr.heap.size wr V) ⟨RowAt.new w4 _ _, below_new hb4 _⟩ ?_
                clear hb4 HKY
                rintro V ⟨hK, hV⟩
                have y0 := hK.cell (i := 0) rfl
                have y1 := hK.cell (i := 1) rfl
                have x2 := HXX.out.1 V hV
                have x3 := HXX.out.2 V hV
                have HV := Lib.hid hV
                clear hK hV
                go_upto_region 18 with (first | simp only [hneq] | fail)
                have hA5 := ChAt.ext HA.out HV.out
                go_wp2_with (go_at_call 11; refine (HNN.out _ hA5).mono ?_; rintro e w5 ⟨rfl, rfl⟩)
                go_roundw
                case measure =>
                  have := HPL.out
                  have h2 : (ofK L (k1, k2)).length = pre.length + (r.length + 1) := by rw [HP.out]; simp
                  show (ofK L (k1, k2)).length - ((pre.length : Int) + 1).toNat < (ofK L (k1, k2)).length - ((pre.length : Int)).toNat
                  omega
                case rel => exact ⟨pre ++ [x], r, by simp, rfl, by rw [HP.out]; simp, hA5, RowAt.ext HX.out HV.out, below_then HB.out HV.out⟩
              | nil =>
                have e1 : headI [] = -1 := rfl
                rw [e1]
                have hlen : ((pre.length : Int) != ((ofK L (k1, k2)).length : Int)) = false := by rw [HP.out]; simp
                have HLEN := Lib.hid hlen
                clear hlen
                go_upto_region 25 with fail
                go_loopw [13, 14] (fun m x wr => ∃ t : Nat, t ≤ R ∧ x = .int .i64 (t : Int) ∧ m = .int .i64 (cntB (fun i => (lk i).inn) t : Int) ∧ ChAt wr b bm bl R L lk ∧ RowAt wr bx #[.int .i64 k, .int .i64 n, .int .i64 k1, .int .i64 k2] 30 ∧ Below W.heap.size W wr) (fun _ x _ => R - (intOf x).toNat)
                case atStart => exact ⟨0, by omega, rfl, rfl, HA.out, HX.out, HB.out⟩
                case round =>
                  clear HA HX HB
                  obtain ⟨t, ht, rfl, rfl, hA, hX, hB⟩ := hrel
                  have HA := Lib.hid hA
                  have HX := Lib.hid hX
                  have HB := Lib.hid hB
                  clear hA hX hB
                  by_cases htl : t < R
                  · have d1 : decide ((t : Int) < (R : Int)) = true := dec_t (by omega)
                    have hky := key_all b bm bl R L lk _ HA.out hR4 (t : Int)
                    rw [inB_nat htl] at hky
                    obtain ⟨⟨z1, z2⟩, hz⟩ : ∃ z, keyZ R lk (t : Int) = z := ⟨_, rfl⟩
                    rw [hz] at hky
                    unfold ek at hky
                    have hcs := cntB_succ (fun i => (lk i).inn) t
                    have hcl := cntB_le (fun i => (lk i).inn) t
                    have w1 := wrap_succ (show cntB (fun i => (lk i).inn) t ≤ 1000000 by omega)
                    obtain ⟨inn, hinn⟩ : ∃ x, (lk t).inn = x := ⟨_, rfl⟩
                    rw [hinn] at hky
                    have HKY := Lib.hid hky
                    have HCS := Lib.hid (And.intro hcs hinn)
                    have HCL := Lib.hid hcl
                    have HW1 := Lib.hid w1
                    clear hky hcs hinn hz hcl
                    cases inn with
                    | true =>
                      go_upto_region 28 with (go_at_call 12; refine HKY.out.mono ?_; rintro e w4 ⟨rfl, hb4⟩)
                      have HB4 := Lib.hid (below_new hb4 (.cells #[.int .i64 z1, .int .i64 z2] 28 ))
                      clear hb4
                      go_wp2_with fail
                      go_roundw
                      case measure => simp [intOf]; omega
                      case rel =>
                        refine ⟨t + 1, by omega, by simp, ?_, ChAt.ext HA.out HB4.out, RowAt.ext HX.out HB4.out, below_then HB.out HB4.out⟩
                        have h1 := HCS.out.1
                        have h2 := HCS.out.2
                        try dsimp only at h1
                        rw [h2, if_pos rfl] at h1
                        rw [h1]
                        have h3 := HW1.out
                        first | rfl | (rw [h3]; rfl)
                    | false =>
                      go_upto_region 28 with (go_at_call 12; refine HKY.out.mono ?_; rintro e w4 ⟨rfl, hb4⟩)
                      have HB4 := Lib.hid (below_new hb4 (.cells #[.int .i64 z1, .int .i64 z2] 28 ))
                      clear hb4
                      go_wp2_with fail
                      go_roundw
                      case measure => simp [intOf]; omega
                      case rel =>
                        refine ⟨t + 1, by omega, by simp, ?_, ChAt.ext HA.out HB4.out, RowAt.ext HX.out HB4.out, below_then HB.out HB4.out⟩
                        have h1 := HCS.out.1
                        have h2 := HCS.out.2
                        try dsimp only at h1
                        rw [h2, if_neg (by simp)] at h1
                        rw [h1]
                        rfl
                  · obtain rfl : t = R := by omega
                    have d1 : decide ((t : Int) < (t : Int)) = false := dec_f (by omega)
                    have hcn : cntB (fun i => (lk i).inn) t = L.length := by obtain ⟨hd, q⟩ := HQ.out; exact cnt_inn q
                    have hL4 : L.length ≤ 4096 := by obtain ⟨hd, q⟩ := HQ.out; have := L_le q; omega
                    rw [hcn]
                    have HL4 := Lib.hid hL4
                    have x2 := RowAt.cell HX.out (i := 2) rfl
                    have x3 := RowAt.cell HX.out (i := 3) rfl
                    have hlen := HLEN.out
                    clear hcn hL4
                    have hj80 : (j : Int) + 1 ≤ 80 := by omega
                    go_wp2_with (first | (go_at_call 13; refine (len_any b bm bl t L lk _ HA.out (k1, k2)).mono ?_; rintro e w6 ⟨rfl, hb6⟩) | (go_at_call 14; refine (total_any b bm bl t L lk _ (ChAt.ext HA.out hb6) HL4.out).mono ?_; rintro e w7 ⟨rfl, hb7⟩))
                    go_roundw
                    case measure => simp [intOf]; omega
                    case rel => exact ⟨j + 1, L, lk, by omega, by simp, ChAt.ext HA.out (below_then hb6 hb7), below_then HB.out (below_then hb6 hb7)⟩
    · have dl : decide ((j : Int) < (len : Int)) = false ∨ decide ((j : Int) < 80) = false := by
        by_cases h1 : j < len
        · exact .inr (dec_f (by have : ¬ j < 80 := fun h => hlt ⟨h1, h⟩; omega))
        · exact .inl (dec_f (by omega))
      have HB := Lib.hid hB
      clear hA hB hlt
      rcases dl with dl | dl
      · have dl' : decide (j < len) = false := by simpa using dl
        go_wp2_with (go_at_call 15; refine (known17 _).mono ?_; rintro e w2 ⟨rfl, hb2⟩)
        go_ret
        exact ⟨rfl, below_then HB.out hb2⟩
      · by_cases h1 : j < len
        · have d1 : decide ((j : Int) < (len : Int)) = true := dec_t (by omega)
          go_wp2_with (go_at_call 15; refine (known17 _).mono ?_; rintro e w2 ⟨rfl, hb2⟩)
          go_ret
          exact ⟨rfl, below_then HB.out hb2⟩
        · have d1 : decide ((j : Int) < (len : Int)) = false := dec_f (by omega)
          have d1' : decide (j < len) = false := dec_f h1
          go_wp2_with (go_at_call 15; refine (known17 _).mono ?_; rintro e w2 ⟨rfl, hb2⟩)
          go_ret
          exact ⟨rfl, below_then HB.out hb2⟩
end Go.Proofs.Ytelnembjcgkiaaa
