/- The document's pool: a list of places. -/
import Derived.Test.YtelnembjcgkiaaaDoorPoW
namespace Go.Proofs.YtelnembjcgkiaaaDoor
open Go.RowKit
set_option linter.unusedVariables false
set_option linter.unusedSimpArgs false

abbrev Pt := Int × Bool × Int × Int × Int
def f5 (p : Pt) : List Value := [.int .u64 p.1, .bool p.2.1, .int .u64 p.2.2.1, .int .u64 p.2.2.2.1, .int .u64 p.2.2.2.2]
def fl5 (L : List Pt) : List Value := L.flatMap f5
theorem fl5_len (L : List Pt) : (fl5 L).length = L.length * 5 := by
  induction L with
  | nil => rfl
  | cons p r ih =>
    have h : fl5 (p :: r) = f5 p ++ fl5 r := rfl
    rw [h, List.length_append, ih]
    simp only [f5, List.length_cons, List.length_nil]
    omega
theorem fl5_snoc (L : List Pt) (p : Pt) : fl5 (L ++ [p]) = fl5 L ++ f5 p := by unfold fl5; simp
theorem fl5_one (L : List Pt) : ∀ v ∈ fl5 L, v.oneCell' = true := by
  intro v hv
  obtain ⟨p, -, hp⟩ := List.mem_flatMap.1 hv
  simp only [f5, List.mem_cons, List.not_mem_nil, or_false] at hp
  rcases hp with rfl | rfl | rfl | rfl | rfl <;> rfl
theorem fl5_get {L : List Pt} {t : Nat} (ht : t < L.length) {p : Pt} (hp : L[t] = p) {c : Nat} {v : Value} (hv : (f5 p)[c]? = some v) : (fl5 L)[t * 5 + c]? = some v := by
  induction L generalizing t with
  | nil => simp at ht
  | cons q r ih =>
    have h : fl5 (q :: r) = f5 q ++ fl5 r := rfl
    have hc : c < 5 := (List.getElem?_eq_some_iff.1 hv).1
    rw [h]
    cases t with
    | zero =>
      obtain rfl : q = p := hp
      rw [List.getElem?_append_left (by simp only [f5, List.length_cons, List.length_nil]; omega)]
      rw [show 0 * 5 + c = c by omega]
      exact hv
    | succ t =>
      rw [List.getElem?_append_right (by simp only [f5, List.length_cons, List.length_nil]; omega)]
      have e : (t + 1) * 5 + c - (f5 q).length = t * 5 + c := by simp only [f5, List.length_cons, List.length_nil]; omega
      rw [e]
      exact ih (by simpa using ht) (by simpa using hp)
theorem hand_eq (g : Int) (t : Nat) (g0 : 0 ≤ g) (g1 : g ≤ 1000000000) (ht : t < 4096) : IntKind.u64.wrap (g * 4096 + IntKind.u64.wrap t) = g * 4096 + t := by
  simp only [IntKind.wrap_u64]
  omega
set_option maxHeartbeats 8000000 in
set_option maxRecDepth 100000 in
theorem rhandle_any (L : List Pt) (v : Value) (ok : Nat → Prop) (w : World) (hv : Sl w v L.length (fl5 L) ok) (hL : L.length ≤ 4096) (t : Nat) (ht : t < L.length) (g : Int) (hg : L[t].1 = g) (g0 : 0 ≤ g) (g1 : g ≤ 1000000000) :
    Calls Tryd.prog 27 #[v, .int .i64 t] w fun e w' => e = .returned (.int .u64 (g * 4096 + t)) ∧ Below w.heap.size w w' := by
  obtain ⟨a, cap, rfl, hc1, hc2, hcell⟩ := hv
  obtain ⟨q, rfl, hq, _, hcl⟩ := hcell (by omega)
  have HQ := Lib.hid (hand_eq g t g0 g1 (by omega))
  obtain ⟨⟨g', x⟩, hp⟩ : ∃ p, L[t] = p := ⟨_, rfl⟩
  have hg' : g' = g := by rw [hp] at hg; exact hg
  subst hg'
  have c0 : w.cell? ⟨q, t * 5, none⟩ = some (.int .u64 g') := hcl (t * 5 + 0) _ (fl5_get ht hp (c := 0) rfl)
  have hti : (t : Int) < (L.length : Int) := by omega
  have ht0 : (0 : Int) ≤ (t : Int) := by omega
  obtain ⟨len, hlen⟩ : ∃ n : Nat, L.length = n := ⟨_, rfl⟩
  rw [hlen] at hti ⊢
  clear hcl hp hg hlen hc1 hc2 ht hL
  go_enter Tryd.func27, Tryd.ntmps27
  go_wp2_with fail
  go_ret
  exact ⟨congrArg (fun v => Ending.returned (Value.int .u64 v)) HQ.out, Below.refl _ _⟩
set_option maxHeartbeats 8000000 in
set_option maxRecDepth 100000 in
theorem rfind_at (L : List Pt) (v : Value) (ok : Nat → Prop) (w : World) (hv : Sl w v L.length (fl5 L) ok) (hL : L.length ≤ 4096) (h : Int) (h0 : 0 ≤ h) (h1 : h ≤ 18446744073709551615) (t : Nat) (he : h % 4096 = (t : Int)) (ht : t < L.length) :
    Calls Tryd.prog 19 #[v, .int .u64 h] w fun e w' => e = .returned (.int .i64 (if L[t].2.1 = true ∧ L[t].1 = h / 4096 then (t : Int) else -1)) ∧ Below w.heap.size w w' := by
  obtain ⟨a, cap, rfl, hc1, hc2, hcell⟩ := hv
  obtain ⟨q, rfl, hq, _, hcl⟩ := hcell (by omega)
  obtain ⟨⟨g, tk, x⟩, hp⟩ : ∃ p, L[t] = p := ⟨_, rfl⟩
  have c0 : w.cell? ⟨q, t * 5, none⟩ = some (.int .u64 g) := hcl (t * 5 + 0) _ (fl5_get ht hp (c := 0) rfl)
  have c1 : w.cell? ⟨q, t * 5 + 1, none⟩ = some (.bool tk) := hcl _ _ (fl5_get ht hp (c := 1) rfl)
  have hti : (t : Int) < (L.length : Int) := by omega
  have ht0 : (0 : Int) ≤ (t : Int) := by omega
  have htw : IntKind.i64.wrap (t : Int) = (t : Int) := by rw [IntKind.wrap_i64]; omega
  have d1 : decide ((t : Int) < (L.length : Int)) = true := dec_t hti
  obtain ⟨len, hlen⟩ : ∃ n : Nat, L.length = n := ⟨_, rfl⟩
  have m1 : h.tmod 4096 = (t : Int) := by rw [← he]; exact Int.tmod_eq_emod_of_nonneg h0
  have m2 : h.tdiv 4096 = h / 4096 := Int.tdiv_eq_ediv_of_nonneg h0
  have hDw : IntKind.u64.wrap (h / 4096) = h / 4096 := by rw [IntKind.wrap_u64]; omega
  obtain ⟨D, hD⟩ : ∃ D, h / 4096 = D := ⟨_, rfl⟩
  rw [hp]
  dsimp only
  rw [hD] at m2 hDw ⊢
  rw [hlen] at hti d1 ⊢
  clear hcl hp hlen hc1 hc2 ht hL he hD h0 h1 hcell
  obtain ⟨R, hR⟩ : ∃ R : Int, (if tk = true ∧ g = D then (t : Int) else -1) = R := ⟨_, rfl⟩
  rw [hR]
  cases tk with
  | false =>
    obtain rfl : R = -1 := by rw [← hR]; simp
    clear hR
    go_enter Tryd.func19, Tryd.ntmps19
    go_wp2_with fail
    go_ret
    exact ⟨rfl, Below.refl _ _⟩
  | true =>
    by_cases hg : g = D
    · subst hg
      obtain rfl : R = (t : Int) := by rw [← hR]; simp
      clear hR
      have b1 : (g == g) = true := beq_t rfl
      go_enter Tryd.func19, Tryd.ntmps19
      go_wp2_with fail
      go_ret
      exact ⟨rfl, Below.refl _ _⟩
    · obtain rfl : R = -1 := by rw [← hR]; simp [hg]
      clear hR
      have b1 : (g == D) = false := beq_f hg
      go_enter Tryd.func19, Tryd.ntmps19
      go_wp2_with fail
      go_ret
      exact ⟨rfl, Below.refl _ _⟩
set_option maxHeartbeats 8000000 in
set_option maxRecDepth 100000 in
theorem rfind_out (L : List Pt) (v : Value) (ok : Nat → Prop) (w : World) (hv : Sl w v L.length (fl5 L) ok) (hL : L.length ≤ 4096) (h : Int) (h0 : 0 ≤ h) (h1 : h ≤ 18446744073709551615) (t : Nat) (he : h % 4096 = (t : Int)) (ht : L.length ≤ t) :
    Calls Tryd.prog 19 #[v, .int .u64 h] w fun e w' => e = .returned (.int .i64 (-1)) ∧ Below w.heap.size w w' := by
  obtain ⟨a, cap, rfl, hc1, hc2, hcell⟩ := hv
  have htw : IntKind.i64.wrap (t : Int) = (t : Int) := by rw [IntKind.wrap_i64]; omega
  have d1 : decide ((t : Int) < (L.length : Int)) = false := dec_f (by omega)
  obtain ⟨len, hlen⟩ : ∃ n : Nat, L.length = n := ⟨_, rfl⟩
  have m1 : h.tmod 4096 = (t : Int) := by rw [← he]; exact Int.tmod_eq_emod_of_nonneg h0
  rw [hlen] at d1 ht ⊢
  clear hcell hlen hc1 hc2 hL he h0 h1
  go_enter Tryd.func19, Tryd.ntmps19
  go_wp2_with fail
  go_ret
  exact ⟨rfl, Below.refl _ _⟩
end Go.Proofs.YtelnembjcgkiaaaDoor
