/- Windows: Split. -/
import Derived.Test.YtdhgcmodlikckaaSkA
namespace Go.Proofs.Ytdhgcmodlikckaa
open Go.RowKit
set_option linter.unusedVariables false
set_option linter.unusedSimpArgs false

/-- The cells of windows. -/
def fw (L : List (Int × Int)) : List Value := L.flatMap fun p => [.int .u64 p.1, .int .u64 p.2]
theorem fw_len (L : List (Int × Int)) : (fw L).length = L.length * 2 := by
  induction L with
  | nil => rfl
  | cons p r ih =>
    have h : fw (p :: r) = [.int .u64 p.1, .int .u64 p.2] ++ fw r := rfl
    rw [h, List.length_append, ih]
    simp only [List.length_cons, List.length_nil]
    omega
theorem fw_get {L : List (Int × Int)} {t : Nat} (ht : t < L.length) {a b : Int} (hp : L[t] = (a, b)) : (fw L)[t * 2]? = some (.int .u64 a) ∧ (fw L)[t * 2 + 1]? = some (.int .u64 b) := by
  induction L generalizing t with
  | nil => simp at ht
  | cons q r ih =>
    have h : fw (q :: r) = [.int .u64 q.1, .int .u64 q.2] ++ fw r := rfl
    rw [h]
    cases t with
    | zero =>
      obtain rfl : q = (a, b) := hp
      exact ⟨rfl, rfl⟩
    | succ t =>
      have := ih (t := t) (by simpa using ht) (by simpa using hp)
      rw [show (t + 1) * 2 = t * 2 + 2 by omega, show t * 2 + 2 + 1 = (t * 2 + 1) + 2 by omega]
      exact this
/-- Is window i hit? -/
def hitB (L : List (Int × Int)) (t : Int) (i : Nat) : Bool := match L[i]? with
  | some p => decide (p.1 ≤ t) && decide (t ≤ p.2)
  | none => false
theorem hitB_at {L : List (Int × Int)} {i : Nat} (h : i < L.length) {a b : Int} (hp : L[i] = (a, b)) (t : Int) : hitB L t i = (decide (a ≤ t) && decide (t ≤ b)) := by
  unfold hitB
  rw [List.getElem?_eq_getElem h, hp]
def hitL (f : Nat → Bool) (n : Nat) : List Nat := (List.range n).filter f
theorem hL_succ (f : Nat → Bool) (n : Nat) : hitL f (n + 1) = hitL f n ++ if f n = true then [n] else [] := by
  unfold hitL
  rw [List.range_succ, List.filter_append]
  congr 1
  by_cases h : f n = true
  · simp [h]
  · simp [h]
theorem hL_le (f : Nat → Bool) (n : Nat) : (hitL f n).length ≤ n := by
  unfold hitL
  have := List.length_filter_le f (List.range n)
  rwa [List.length_range] at this
theorem hL_both (f : Nat → Bool) (n : Nat) : (hitL f n).length + (hitL (fun i => !f i) n).length = n := by
  induction n with
  | zero => rfl
  | succ n ih =>
    rw [hL_succ, hL_succ, List.length_append, List.length_append]
    cases h : f n with
    | true => simp; omega
    | false => simp; omega
def ic (L : List Nat) : List Value := L.map fun i : Nat => .int .i64 (i : Int)
theorem ic_snoc (L : List Nat) (i : Nat) : ic (L ++ [i]) = ic L ++ [.int .i64 (i : Int)] := by unfold ic; simp
theorem hL_yes {f : Nat → Bool} {n : Nat} (h : f n = true) : ic (hitL f (n + 1)) = ic (hitL f n) ++ [.int .i64 (n : Int)] ∧ (hitL f (n + 1)).length = (hitL f n).length + 1 := by
  rw [hL_succ, if_pos h, ic_snoc, List.length_append]
  exact ⟨rfl, rfl⟩
theorem hL_no {f : Nat → Bool} {n : Nat} (h : f n = false) : hitL f (n + 1) = hitL f n := by rw [hL_succ, if_neg (by rw [h]; simp), List.append_nil]
theorem hL_at {f : Nat → Bool} {i n : Nat} (h : f i = true) (hi : i < n) : (ic (hitL f n))[(hitL f i).length]? = some (.int .i64 (i : Int)) ∧ (hitL f i).length < (hitL f n).length := by
  obtain ⟨d, rfl⟩ : ∃ d, n = i + 1 + d := ⟨n - (i + 1), by omega⟩
  have hp : ∀ d, ∃ X, hitL f (i + 1 + d) = hitL f i ++ i :: X := fun d => by
    induction d with
    | zero => exact ⟨[], by rw [Nat.add_zero, hL_succ, if_pos h]⟩
    | succ d ih =>
      obtain ⟨X, hX⟩ := ih
      exact ⟨X ++ (if f (i + 1 + d) = true then [i + 1 + d] else []), by rw [← Nat.add_assoc, hL_succ, hX, List.append_assoc]; rfl⟩
  obtain ⟨X, hX⟩ := hp d
  rw [hX]
  unfold ic
  rw [List.map_append, List.getElem?_append_right (by simp), List.length_map]
  simp
theorem step_lt {n t : Nat} (h : t < n) : n - ((t : Int) + 1).toNat < n - ((t : Int)).toNat := by omega
theorem wrap_succ {n : Nat} (h : n ≤ 1000000) : wrap64 ((n : Int) + 1) = (n : Int) + 1 := by unfold wrap64; omega
/-- Two rows of the call's own, apart. -/
structure Two (w : World) (base : Nat) (v u : Value) (H O : List Nat) : Prop where
  h : w.ownsRow base 3 1 v H.length (ic H)
  o : w.ownsRow base 3 1 u O.length (ic O)
  ap : ∀ g, v.ownBlock = some g → u.ownBlock ≠ some g
theorem Two.ext {w w' : World} {base : Nat} {v u : Value} {H O : List Nat} (h : Two w base v u H O) (hb : Below w.heap.size w w') : Two w' base v u H O :=
  ⟨ownsRow_only h.h (only_of hb (fun _ => False)) (fun _ _ => id), ownsRow_only h.o (only_of hb (fun _ => False)) (fun _ _ => id), h.ap⟩
theorem Two.growH {w w' : World} {base : Nat} {v v' u : Value} {H O : List Nat} {i : Nat} (h : Two w base v u H O) (ho : w'.ownsRow base 3 1 v' (H.length + 1) (ic H ++ [.int .i64 (i : Int)])) (hy : Only (fun k => some k = v.ownBlock) w w') (hk : v'.ownBlock = v.ownBlock ∨ v'.ownBlock = some (w.heap.size + 1)) : Two w' base v' u (H ++ [i]) O := by
  refine ⟨by rw [List.length_append, ic_snoc]; exact ho, ownsRow_only h.o hy (fun g hg e => h.ap g e.symm hg), fun g hg => ?_⟩
  rcases hk with q | q
  · exact h.ap g (q.symm.trans hg)
  · intro e
    have h1 := (ownsRow_base h.o g e).2
    rw [q] at hg
    injection hg with hg
    omega
theorem Two.growO {w w' : World} {base : Nat} {v u u' : Value} {H O : List Nat} {i : Nat} (h : Two w base v u H O) (ho : w'.ownsRow base 3 1 u' (O.length + 1) (ic O ++ [.int .i64 (i : Int)])) (hy : Only (fun k => some k = u.ownBlock) w w') (hk : u'.ownBlock = u.ownBlock ∨ u'.ownBlock = some (w.heap.size + 1)) : Two w' base v u' H (O ++ [i]) := by
  refine ⟨ownsRow_only h.h hy (fun g hg e => h.ap g hg e.symm), by rw [List.length_append, ic_snoc]; exact ho, fun g hg => ?_⟩
  rcases hk with q | q
  · exact fun e => h.ap g hg (q.symm.trans e)
  · intro e
    have h1 := (ownsRow_base h.h g hg).2
    rw [q] at e
    injection e with e
    omega
set_option maxHeartbeats 8000000 in
set_option maxRecDepth 100000 in
theorem split_any (L : List (Int × Int)) (v : Value) (ok : Nat → Prop) (w : World) (hv : Sl w v L.length (fw L) ok) (hL : L.length ≤ 1000000) (x : Int) :
    Calls Try.prog 36 #[v, .int .u64 x] w fun e w' => ∃ p q, e = .returned (.tuple #[p, q]) ∧ Two w' w.heap.size p q (hitL (hitB L x) L.length) (hitL (fun i => !hitB L x i) L.length) ∧ Below w.heap.size w w' := by
  obtain ⟨a, cap, rfl, hc1, hc2, hcell⟩ := hv
  have HC := Lib.hid hcell
  obtain ⟨len, hlen⟩ : ∃ n : Nat, L.length = n := ⟨_, rfl⟩
  have HL := Lib.hid hlen
  rw [hlen] at hc1 hL ⊢
  clear hcell hlen hc1 hc2
  go_enter Try.func36, Try.ntmps36
  go_wp2_with fail
  go_loopw [6, 7, 12] (fun p q z wr => ∃ t : Nat, z = .int .i64 t ∧ t ≤ len ∧ Two wr w.heap.size p q (hitL (hitB L x) t) (hitL (fun i => !hitB L x i) t) ∧ Below w.heap.size w wr) (fun _ _ z _ => len - (intOf z).toNat)
  case atStart => exact ⟨0, rfl, by omega, ⟨⟨rfl, .inl ⟨rfl, rfl⟩⟩, ⟨rfl, .inl ⟨rfl, rfl⟩⟩, by intro g hg; cases hg⟩, Below.refl _ _⟩
  case round =>
    obtain ⟨t, rfl, ht, hT, hB⟩ := hrel
    have HT2 := Lib.hid hT
    have HB2 := Lib.hid hB
    by_cases hlt : t < len
    · have d1 : decide ((t : Int) < (len : Int)) = true := dec_t (by omega)
      obtain ⟨g, rfl, hg, _, hcl⟩ := HC.out (by rw [HL.out]; omega)
      have htl : t < L.length := by rw [HL.out]; exact hlt
      obtain ⟨⟨a1, b1⟩, hp⟩ : ∃ p, L[t] = p := ⟨_, rfl⟩
      have hq0 : w.cell? ⟨g, t * 2, none⟩ = some (.int .u64 a1) := hcl _ _ (fw_get htl hp).1
      have hq1 : w.cell? ⟨g, t * 2 + 1, none⟩ = some (.int .u64 b1) := hcl _ _ (fw_get htl hp).2
      have y0 := (hB.cell (p := ⟨g, t * 2, none⟩) hg).trans hq0
      have y1 := (hB.cell (p := ⟨g, t * 2 + 1, none⟩) hg).trans hq1
      have hti : (t : Int) < (len : Int) := by omega
      have ht0 : (0 : Int) ≤ (t : Int) := by omega
      have w1 := wrap_succ (show t ≤ 1000000 by omega)
      have hhb := (hitB_at htl hp x).symm
      have HLH := Lib.hid (show (hitL (hitB L x) t).length ≤ 1000000000 from Nat.le_trans (hL_le _ _) (by omega))
      have HLO := Lib.hid (show (hitL (fun i => !hitB L x i) t).length ≤ 1000000000 from Nat.le_trans (hL_le _ _) (by omega))
      cases hf : hitB L x t with
      | true =>
        rw [hf] at hhb
        have HHB := Lib.hid hhb
        have HF := Lib.hid hf
        clear hT hB hq0 hq1 hcl hp hhb hf
        go_wp2_with (first | (go_at_call 33; refine (hits_any x a1 b1 _).mono ?_; rintro e w3 ⟨rfl, hb3⟩; rw [HHB.out]; have HT3 := Lib.hid ((HT2.out.ext (below_new (Below.refl _ _) (.cells #[.int .u64 a1, .int .u64 b1] 53 ))).ext hb3); have HB3 := Lib.hid (below_then (below_new HB2.out (.cells #[.int .u64 a1, .int .u64 b1] 53 )) hb3); clear hb3) | (at_builtin; refine wpList_grow1_at rfl (.tmp 20) (.tmp 22) 57 rfl w.heap.size 3 1 8 Try.underlying57 (by kernel_rfl) (by decide) (by decide) _ _ _ rfl HT3.out.h [.int .i64 (t : Int)] rfl rfl (by simp [Value.oneCell']) HLH.out HB3.out.size _ ?_; intro v' w4 hown' ho' hob'; have HO4 := Lib.hid hown'; have HY4 := Lib.hid ho'; have HK4 := Lib.hid hob'; clear hown' ho' hob'))
        go_roundw
        case measure => exact step_lt hlt
        case rel =>
          refine ⟨t + 1, by simp, by omega, ?_, Only.below HB3.out HY4.out (fun k hk => (ownsRow_base HT3.out.h k hk.symm).1) HB3.out.size⟩
          have h2 := HT3.out.growH HO4.out HY4.out HK4.out
          rw [hL_no (f := fun i => !hitB L x i) (by simp [HF.out]), hL_succ, if_pos HF.out]
          exact h2
      | false =>
        rw [hf] at hhb
        have HHB := Lib.hid hhb
        have HF := Lib.hid hf
        clear hT hB hq0 hq1 hcl hp hhb hf
        go_wp2_with (first | (go_at_call 33; refine (hits_any x a1 b1 _).mono ?_; rintro e w3 ⟨rfl, hb3⟩; rw [HHB.out]; have HT3 := Lib.hid ((HT2.out.ext (below_new (Below.refl _ _) (.cells #[.int .u64 a1, .int .u64 b1] 53 ))).ext hb3); have HB3 := Lib.hid (below_then (below_new HB2.out (.cells #[.int .u64 a1, .int .u64 b1] 53 )) hb3); clear hb3) | (at_builtin; refine wpList_grow1_at rfl (.tmp 24) (.tmp 26) 57 rfl w.heap.size 3 1 8 Try.underlying57 (by kernel_rfl) (by decide) (by decide) _ _ _ rfl HT3.out.o [.int .i64 (t : Int)] rfl rfl (by simp [Value.oneCell']) HLO.out HB3.out.size _ ?_; intro v' w4 hown' ho' hob'; have HO4 := Lib.hid hown'; have HY4 := Lib.hid ho'; have HK4 := Lib.hid hob'; clear hown' ho' hob'))
        go_roundw
        case measure => exact step_lt hlt
        case rel =>
          refine ⟨t + 1, by simp, by omega, ?_, Only.below HB3.out HY4.out (fun k hk => (ownsRow_base HT3.out.o k hk.symm).1) HB3.out.size⟩
          have h2 := HT3.out.growO HO4.out HY4.out HK4.out
          rw [hL_no HF.out, hL_succ (fun i => !hitB L x i), if_pos (by simp [HF.out])]
          exact h2
    · obtain rfl : t = len := by omega
      have d1 : decide ((t : Int) < (t : Int)) = false := dec_f (by omega)
      clear hT hB
      go_wp2_with fail
      refine bodyPost_ret (v := .tuple #[u6, u7]) (by simp [results, Try.results36, go_sem]) rfl ⟨_, _, rfl, HT2.out, HB2.out⟩
end Go.Proofs.Ytdhgcmodlikckaa
