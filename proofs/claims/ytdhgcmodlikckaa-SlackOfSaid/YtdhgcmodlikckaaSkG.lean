/- The windows of an argument. -/
import Derived.Test.YtdhgcmodlikckaaSkF
import Derived.Test.YtdhgcmodlikckaaArgs
namespace Go.Proofs.Ytdhgcmodlikckaa
open Go.RowKit
set_option linter.unusedVariables false
set_option linter.unusedSimpArgs false
open Go.Deep
/-- A slice, wherever it lies, that holds these windows. -/
def Wn (w : World) (v : Value) (L : List (Int × Int)) : Prop :=
  ∃ a cap, v = .slice a L.length cap ∧ (0 < L.length → ∃ g o, a = some ⟨g, o, none⟩ ∧ g < w.heap.size ∧ ∀ t (h : t < L.length), w.cell? ⟨g, o + t * 2, none⟩ = some (.int .u64 L[t].1) ∧ w.cell? ⟨g, o + t * 2 + 1, none⟩ = some (.int .u64 L[t].2))
theorem Wn.ext {w w' : World} {v : Value} {L : List (Int × Int)} (h : Wn w v L) (hb : Below w.heap.size w w') : Wn w' v L := by
  obtain ⟨a, cap, rfl, h4⟩ := h
  refine ⟨a, cap, rfl, fun h0 => ?_⟩
  obtain ⟨g, o, h1, h2, h3⟩ := h4 h0
  exact ⟨g, o, h1, Nat.lt_of_lt_of_le h2 hb.size, fun t ht => ⟨(hb.cell (p := ⟨g, o + t * 2, none⟩) h2).trans (h3 t ht).1, (hb.cell (p := ⟨g, o + t * 2 + 1, none⟩) h2).trans (h3 t ht).2⟩⟩
set_option maxHeartbeats 8000000 in
set_option maxRecDepth 100000 in
theorem split_win (L : List (Int × Int)) (v : Value) (w : World) (hv : Wn w v L) (hL : L.length ≤ 1000000) (x : Int) :
    Calls Try.prog 36 #[v, .int .u64 x] w fun e w' => ∃ p q, e = .returned (.tuple #[p, q]) ∧ Two w' w.heap.size p q (hitL (hitB L x) L.length) (hitL (fun i => !hitB L x i) L.length) ∧ Below w.heap.size w w' := by
  obtain ⟨a, cap, rfl, hcell⟩ := hv
  have HC := Lib.hid hcell
  obtain ⟨len, hlen⟩ : ∃ n : Nat, L.length = n := ⟨_, rfl⟩
  have HL := Lib.hid hlen
  rw [hlen] at hL ⊢
  clear hcell hlen
  go_enter Try.func36, Try.ntmps36
  go_wp2_with fail
  go_loopw [6, 7, 12] (fun p q z wr => ∃ t : Nat, z = .int .i64 t ∧ t ≤ len ∧ Two wr w.heap.size p q (hitL (hitB L x) t) (hitL (fun i => !hitB L x i) t) ∧ Below w.heap.size w wr) (fun _ _ z _ => len - (intOf z).toNat)
  case atStart => exact ⟨0, rfl, by omega, ⟨⟨rfl, .inl ⟨rfl, rfl⟩⟩, ⟨rfl, .inl ⟨rfl, rfl⟩⟩, by intro g hg; cases hg⟩, Below.refl _ _⟩
  case round =>
    obtain ⟨t, rfl, ht, hT, hB⟩ := hrel
    have HT2 := Lib.hid hT
    have HB2 := Lib.hid hB
    by_cases hlt : t < len
    · have d1 : decide ((t : Int) < (len : Int)) = true := dec_t (by omega)
      obtain ⟨g, o, rfl, hg, hcl⟩ := HC.out (by rw [HL.out]; omega)
      have htl : t < L.length := by rw [HL.out]; exact hlt
      obtain ⟨⟨a1, b1⟩, hp⟩ : ∃ p, L[t] = p := ⟨_, rfl⟩
      have hq0 : w.cell? ⟨g, o + t * 2, none⟩ = some (.int .u64 a1) := by have := (hcl t htl).1; rw [hp] at this; exact this
      have hq1 : w.cell? ⟨g, o + t * 2 + 1, none⟩ = some (.int .u64 b1) := by have := (hcl t htl).2; rw [hp] at this; exact this
      have y0 := (hB.cell (p := ⟨g, o + t * 2, none⟩) hg).trans hq0
      have y1 := (hB.cell (p := ⟨g, o + t * 2 + 1, none⟩) hg).trans hq1
      have hti : (t : Int) < (len : Int) := by omega
      have ht0 : (0 : Int) ≤ (t : Int) := by omega
      have w1 := wrap_succ (show t ≤ 1000000 by omega)
      have hhb := (hitB_at htl hp x).symm
      have HLH := Lib.hid (show (hitL (hitB L x) t).length ≤ 1000000000 from Nat.le_trans (hL_le _ _) (by omega))
      have HLO := Lib.hid (show (hitL (fun i => !hitB L x i) t).length ≤ 1000000000 from Nat.le_trans (hL_le _ _) (by omega))
      cases hf : hitB L x t with
      | true =>
        rw [hf] at hhb
        have HHB := Lib.hid hhb
        have HF := Lib.hid hf
        clear hT hB hq0 hq1 hcl hp hhb hf
        go_wp2_with (first | (go_at_call 33; refine (hits_any x a1 b1 _).mono ?_; rintro e w3 ⟨rfl, hb3⟩; rw [HHB.out]; have HT3 := Lib.hid ((HT2.out.ext (below_new (Below.refl _ _) (.cells #[.int .u64 a1, .int .u64 b1] 53 ))).ext hb3); have HB3 := Lib.hid (below_then (below_new HB2.out (.cells #[.int .u64 a1, .int .u64 b1] 53 )) hb3); clear hb3) | (at_builtin; refine wpList_grow1_at rfl (.tmp 20) (.tmp 22) 57 rfl w.heap.size 3 1 8 Try.underlying57 (by kernel_rfl) (by decide) (by decide) _ _ _ rfl HT3.out.h [.int .i64 (t : Int)] rfl rfl (by simp [Value.oneCell']) HLH.out HB3.out.size _ ?_; intro v' w4 hown' ho' hob'; have HO4 := Lib.hid hown'; have HY4 := Lib.hid ho'; have HK4 := Lib.hid hob'; clear hown' ho' hob'))
        go_roundw
        case measure => exact step_lt hlt
        case rel =>
          refine ⟨t + 1, by simp, by omega, ?_, Only.below HB3.out HY4.out (fun k hk => (ownsRow_base HT3.out.h k hk.symm).1) HB3.out.size⟩
          have h2 := HT3.out.growH HO4.out HY4.out HK4.out
          rw [hL_no (f := fun i => !hitB L x i) (by simp [HF.out]), hL_succ, if_pos HF.out]
          exact h2
      | false =>
        rw [hf] at hhb
        have HHB := Lib.hid hhb
        have HF := Lib.hid hf
        clear hT hB hq0 hq1 hcl hp hhb hf
        go_wp2_with (first | (go_at_call 33; refine (hits_any x a1 b1 _).mono ?_; rintro e w3 ⟨rfl, hb3⟩; rw [HHB.out]; have HT3 := Lib.hid ((HT2.out.ext (below_new (Below.refl _ _) (.cells #[.int .u64 a1, .int .u64 b1] 53 ))).ext hb3); have HB3 := Lib.hid (below_then (below_new HB2.out (.cells #[.int .u64 a1, .int .u64 b1] 53 )) hb3); clear hb3) | (at_builtin; refine wpList_grow1_at rfl (.tmp 24) (.tmp 26) 57 rfl w.heap.size 3 1 8 Try.underlying57 (by kernel_rfl) (by decide) (by decide) _ _ _ rfl HT3.out.o [.int .i64 (t : Int)] rfl rfl (by simp [Value.oneCell']) HLO.out HB3.out.size _ ?_; intro v' w4 hown' ho' hob'; have HO4 := Lib.hid hown'; have HY4 := Lib.hid ho'; have HK4 := Lib.hid hob'; clear hown' ho' hob'))
        go_roundw
        case measure => exact step_lt hlt
        case rel =>
          refine ⟨t + 1, by simp, by omega, ?_, Only.below HB3.out HY4.out (fun k hk => (ownsRow_base HT3.out.o k hk.symm).1) HB3.out.size⟩
          have h2 := HT3.out.growO HO4.out HY4.out HK4.out
          rw [hL_no HF.out, hL_succ (fun i => !hitB L x i), if_pos (by simp [HF.out])]
          exact h2
    · obtain rfl : t = len := by omega
      have d1 : decide ((t : Int) < (t : Int)) = false := dec_f (by omega)
      clear hT hB
      go_wp2_with fail
      refine bodyPost_ret (v := .tuple #[u6, u7]) (by simp [results, Try.results36, go_sem]) rfl ⟨_, _, rfl, HT2.out, HB2.out⟩

def winSh : List Sh := [.int .u64, .int .u64]
theorem cell_spot {W : World} {a : Addr} {v : Value} (h : W.cell? a = some v) : a.spot = none := by
  unfold World.cell? at h
  cases hs : a.spot with
  | none => rfl
  | some x =>
    rw [hs] at h
    split at h <;> simp at h
theorem list2 {α : Type} {l : List α} (h : l.length = 2) : ∃ a b, l = [a, b] := by
  match l, h with
  | [a, b], _ => exact ⟨a, b, rfl⟩
set_option maxRecDepth 10000 in
/-- The first n windows of an argument. -/
theorem win_of {W : World} {a : Option Addr} {len cap : Nat} (h : Fit1 W (.slice winSh) (.slice a len cap)) (n : Nat) (hn : n ≤ len) : ∃ L : List (Int × Int), L.length = n ∧ ∀ c, Wn W (.slice a n c) L := by
  unfold Fit1 at h
  rcases h with h | ⟨a', len', cap', h1, -, -, h4⟩
  · simp only [Value.slice.injEq] at h
    obtain rfl : n = 0 := by omega
    exact ⟨[], rfl, fun c => ⟨a, c, rfl, fun h0 => absurd h0 (by simp)⟩⟩
  · simp only [Value.slice.injEq] at h1
    obtain ⟨e1, e2, e3⟩ := h1
    subst e1
    rw [← e2] at h4
    clear e2 e3
    obtain ⟨bb, oo, sp⟩ := a'
    by_cases hlen : len = 0
    · obtain rfl : n = 0 := by omega
      exact ⟨[], rfl, fun c => ⟨_, c, rfl, fun h0 => absurd h0 (by simp)⟩⟩
    have hsp : sp = none := by
      obtain ⟨cs0, hc0, hf0⟩ := h4 0 (by omega)
      have hl0 := hf0.length
      have z := hc0 0 (by show 0 < 2; omega)
      rw [List.getElem?_eq_getElem (by rw [hl0]; show 0 < 2; omega)] at z
      have z2 : (⟨bb, oo, sp⟩ : Addr).add (0 * winSh.length + 0) = ⟨bb, oo, sp⟩ := rfl
      rw [z2] at z
      exact cell_spot z
    subst hsp
    have hcell : ∀ i, i < len → ∃ x y : Int, W.cell? ⟨bb, oo + i * 2, none⟩ = some (.int .u64 x) ∧ W.cell? ⟨bb, oo + i * 2 + 1, none⟩ = some (.int .u64 y) := fun i hi => by
      obtain ⟨cs, hc, hf⟩ := h4 i hi
      obtain ⟨c0, c1, rfl⟩ := list2 hf.length
      simp only [winSh, Fits, Fit1, and_true] at hf
      obtain ⟨⟨x, rfl, -⟩, ⟨y, rfl, -⟩⟩ := hf
      have q0 := hc 0 (by simp [winSh])
      have q1 := hc 1 (by simp [winSh])
      have e : ∀ j, (⟨bb, oo, none⟩ : Addr).add (i * winSh.length + j) = ⟨bb, oo + i * 2 + j, none⟩ := fun j => by
        rw [addr_add]
        congr 1
        show oo + (i * 2 + j) = _
        omega
      rw [e] at q0 q1
      exact ⟨x, y, q0, q1⟩
    have hb : bb < W.heap.size := by
      obtain ⟨x, y, q0, -⟩ := hcell 0 (by omega)
      exact World.block_lt_of_cell? W _ q0
    have hL : ∀ m, m ≤ len → ∃ L : List (Int × Int), L.length = m ∧ ∀ t (h : t < L.length), W.cell? ⟨bb, oo + t * 2, none⟩ = some (.int .u64 L[t].1) ∧ W.cell? ⟨bb, oo + t * 2 + 1, none⟩ = some (.int .u64 L[t].2) := fun m => by
      induction m with
      | zero => exact fun _ => ⟨[], rfl, fun t h => absurd h (by simp)⟩
      | succ m ih =>
        intro hm
        obtain ⟨L, hl, hc⟩ := ih (by omega)
        obtain ⟨x, y, q0, q1⟩ := hcell m (by omega)
        refine ⟨L ++ [(x, y)], by rw [List.length_append, hl]; rfl, fun t ht => ?_⟩
        by_cases htm : t < L.length
        · rw [List.getElem_append_left htm]
          exact hc t htm
        · have htm2 : t = m := by rw [List.length_append] at ht; simp at ht; omega
          subst htm2
          rw [List.getElem_append_right (by omega)]
          simp only [hl, Nat.sub_self, List.getElem_cons_zero]
          exact ⟨q0, q1⟩
    obtain ⟨L, hl, hc⟩ := hL n hn
    exact ⟨L, hl, fun c => ⟨_, c, by rw [hl], fun _ => ⟨bb, oo, rfl, hb, hc⟩⟩⟩
theorem fit_le {W : World} {s : List Sh} {a : Option Addr} {len cap : Nat} (h : Fit1 W (.slice s) (.slice a len cap)) : len ≤ cap ∧ cap ≤ 9223372036854775807 := by
  unfold Fit1 at h
  rcases h with h | ⟨a', len', cap', h1, h2, h3, -⟩
  · simp only [Value.slice.injEq] at h
    omega
  · simp only [Value.slice.injEq] at h1
    unfold maxLen at h3
    omega
set_option maxHeartbeats 8000000 in
set_option maxRecDepth 100000 in
theorem cut_any (a : Option Addr) (len cap : Nat) (w : World) (hc : len ≤ cap) (hm : cap ≤ 9223372036854775807) :
    Calls Try.prog 26 #[.slice a len cap] w fun e w' => e = .returned (.slice a (min len 60) cap) ∧ Below w.heap.size w w' := by
  by_cases h : len ≤ 60
  · have hmin : min len 60 = len := by omega
    rw [hmin]
    have hmi : min (len : Int) 60 = (len : Int) := by omega
    go_enter Try.func26, Try.ntmps26
    go_wp2_with fail
    go_ret
    exact ⟨rfl, Below.refl _ _⟩
  · have hmin : min len 60 = 60 := by omega
    rw [hmin]
    have hmi : (min (len : Int) 60).toNat = 60 := by omega
    have HMI := Lib.hid hmi
    clear hmi hmin
    go_enter Try.func26, Try.ntmps26
    go_wp2_with fail
    go_ret
    exact ⟨by rw [HMI.out]; rfl, Below.refl _ _⟩
end Go.Proofs.Ytdhgcmodlikckaa
