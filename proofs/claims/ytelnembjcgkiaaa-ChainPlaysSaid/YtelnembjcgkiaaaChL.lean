/- The document's list of things: Find, Remove, All, Next, Push. -/
import Derived.Test.YtelnembjcgkiaaaChW
import Derived.Test.YtelnembjcgkiaaaChK
import Derived.Test.YtelnembjcgkiaaaEqQ
namespace Go.Proofs.Ytelnembjcgkiaaa
open Go.RowKit
set_option linter.unusedVariables false
set_option linter.unusedSimpArgs false
set_option linter.unusedSectionVars false
def f3 (p : (Int × Int) × Nat) : List Value := [.int .i64 p.1.1, .int .i64 p.1.2, .int .i64 (p.2 : Int)]
def fl (L : List ((Int × Int) × Nat)) : List Value := L.flatMap f3
theorem fl_len (L : List ((Int × Int) × Nat)) : (fl L).length = L.length * 3 := by
  induction L with
  | nil => rfl
  | cons p r ih =>
    have h : fl (p :: r) = f3 p ++ fl r := rfl
    rw [h, List.length_append, ih]
    simp only [f3, List.length_cons, List.length_nil]
    omega
theorem fl_snoc (L : List ((Int × Int) × Nat)) (p : (Int × Int) × Nat) : fl (L ++ [p]) = fl L ++ f3 p := by unfold fl; simp
theorem fl_one (L : List ((Int × Int) × Nat)) : ∀ v ∈ fl L, v.oneCell' = true := by
  intro v hv
  obtain ⟨p, -, hp⟩ := List.mem_flatMap.1 hv
  simp only [f3, List.mem_cons, List.not_mem_nil, or_false] at hp
  rcases hp with rfl | rfl | rfl <;> rfl
theorem fl_get {L : List ((Int × Int) × Nat)} {t : Nat} (ht : t < L.length) {p : (Int × Int) × Nat} (hp : L[t] = p) {c : Nat} {v : Value} (hv : (f3 p)[c]? = some v) : (fl L)[t * 3 + c]? = some v := by
  induction L generalizing t with
  | nil => simp at ht
  | cons q r ih =>
    have h : fl (q :: r) = f3 q ++ fl r := rfl
    have hc : c < 3 := (List.getElem?_eq_some_iff.1 hv).1
    rw [h]
    cases t with
    | zero =>
      obtain rfl : q = p := hp
      rw [List.getElem?_append_left (by simp only [f3, List.length_cons, List.length_nil]; omega)]
      rw [show 0 * 3 + c = c by omega]
      exact hv
    | succ t =>
      rw [List.getElem?_append_right (by simp only [f3, List.length_cons, List.length_nil]; omega)]
      have e : (t + 1) * 3 + c - (f3 q).length = t * 3 + c := by simp only [f3, List.length_cons, List.length_nil]; omega
      rw [e]
      exact ih (by simpa using ht) (by simpa using hp)
/-- What Find answers. -/
def FindP (L : List ((Int × Int) × Nat)) (i r : Int) : Prop := (r = -1 ∧ ∀ p ∈ L, (p.2 : Int) ≠ i) ∨ ∃ t : Nat, r = (t : Int) ∧ ∃ h : t < L.length, (L[t].2 : Int) = i
set_option maxHeartbeats 8000000 in
set_option maxRecDepth 100000 in
theorem rfind_any (L : List ((Int × Int) × Nat)) (v : Value) (ok : Nat → Prop) (w : World) (hv : Sl w v L.length (fl L) ok) (hL : L.length ≤ 1000000) (i : Int) :
    Calls Try.prog 20 #[v, .int .i64 i] w fun e w' => ∃ r, e = .returned (.int .i64 r) ∧ FindP L i r ∧ w = w' := by
  obtain ⟨a, cap, rfl, hc1, hc2, hcell⟩ := hv
  have HC := Lib.hid hcell
  obtain ⟨len, hlen⟩ : ∃ n : Nat, L.length = n := ⟨_, rfl⟩
  have HL := Lib.hid hlen
  rw [hlen] at hc1 hL ⊢
  clear hcell hlen hc1 hc2
  go_enter Try.func20, Try.ntmps20
  go_wp2_with fail
  go_loopw [5] (fun u wr => ∃ t : Nat, u = .int .i64 t ∧ t ≤ len ∧ (∀ p ∈ L.take t, (p.2 : Int) ≠ i) ∧ w = wr) (fun u _ => len - (intOf u).toNat)
  case atStart => exact ⟨0, rfl, by omega, by simp, by first | rfl | trivial⟩
  case round =>
    obtain ⟨t, rfl, ht, hno, rfl⟩ := hrel
    have HNO := Lib.hid hno
    clear hno
    by_cases hlt : t < len
    · have d1 : decide ((t : Int) < (len : Int)) = true := dec_t (by omega)
      obtain ⟨g, rfl, hg, _, hcl⟩ := HC.out (by rw [HL.out]; omega)
      have htl : t < L.length := by rw [HL.out]; exact hlt
      obtain ⟨⟨⟨k1, k2⟩, x⟩, hp⟩ : ∃ p, L[t] = p := ⟨_, rfl⟩
      have hq0 : w.cell? ⟨g, t * 3, none⟩ = some (.int .i64 k1) := hcl (t * 3 + 0) _ (fl_get htl hp (c := 0) rfl)
      have hq1 : w.cell? ⟨g, t * 3 + 1, none⟩ = some (.int .i64 k2) := hcl _ _ (fl_get htl hp (c := 1) rfl)
      have hq2 : w.cell? ⟨g, t * 3 + 2, none⟩ = some (.int .i64 (x : Int)) := hcl _ _ (fl_get htl hp (c := 2) rfl)
      have hti : (t : Int) < (len : Int) := by omega
      have HP := Lib.hid hp
      clear hcl hp
      have w1 := wrap_succ (show t ≤ 1000000 by omega)
      have HW1 := Lib.hid w1
      by_cases hx : (x : Int) = i
      · have hb : (((x : Nat) : Int) == i) = true := beq_t hx
        have HX := Lib.hid hx
        clear hx w1
        go_wp2_with fail
        go_ret
        exact ⟨_, rfl, .inr ⟨t, rfl, htl, by rw [HP.out]; exact HX.out⟩, by first | rfl | trivial⟩
      · have hb : (((x : Nat) : Int) == i) = false := beq_f hx
        have HX := Lib.hid hx
        clear hx
        go_wp2_with fail
        go_roundw
        case measure => exact step_lt hlt
        case rel =>
          refine ⟨t + 1, by simp, by omega, ?_, by first | rfl | trivial⟩
          rw [List.take_succ_eq_append_getElem htl, HP.out]
          intro p hp
          rcases List.mem_append.1 hp with hp | hp
          · exact HNO.out p hp
          · simp only [List.mem_singleton] at hp
            subst hp
            exact HX.out
    · obtain rfl : t = len := by omega
      have d1 : decide ((t : Int) < (t : Int)) = false := dec_f (by omega)
      have hno : ∀ p ∈ L, (p.2 : Int) ≠ i := by
        have := HNO.out
        rw [← HL.out, List.take_length] at this
        exact this
      have HN := Lib.hid hno
      clear hno
      go_wp2_with fail
      go_ret
      exact ⟨_, rfl, .inl ⟨rfl, HN.out⟩, by first | rfl | trivial⟩

/-- What Remove of the document keeps. -/
def remI (L : List ((Int × Int) × Nat)) (i : Int) : List ((Int × Int) × Nat) := L.filter fun p => decide ((p.2 : Int) ≠ i)
theorem remI_eq (L : List ((Int × Int) × Nat)) (i : Int) : remI L i = dropI L i := by
  unfold remI dropI
  by_cases h : 0 ≤ i
  · obtain ⟨j, rfl⟩ := Int.eq_ofNat_of_zero_le h
    rw [if_pos h, Int.toNat_natCast]
    unfold dropT
    apply List.filter_congr
    intro p _
    congr 1
    simp only [ne_eq, eq_iff_iff]
    omega
  · rw [if_neg h]
    refine List.filter_eq_self.2 fun p _ => ?_
    simp only [decide_eq_true_eq]
    omega
theorem remI_take {L : List ((Int × Int) × Nat)} {i : Int} {t : Nat} (h : t < L.length) : remI (L.take (t + 1)) i = remI (L.take t) i ++ if (L[t].2 : Int) ≠ i then [L[t]] else [] := by
  unfold remI
  rw [List.take_succ_eq_append_getElem h, List.filter_append]
  congr 1
  by_cases hx : (L[t].2 : Int) = i
  · simp [hx]
  · simp [hx]
theorem remI_le (L : List ((Int × Int) × Nat)) (i : Int) (t : Nat) : (remI (L.take t) i).length ≤ L.length := by
  unfold remI
  exact Nat.le_trans (List.length_filter_le _ _) (by simp; omega)
theorem remI_full (L : List ((Int × Int) × Nat)) (i : Int) : remI (L.take L.length) i = remI L i := by rw [List.take_length]
set_option maxHeartbeats 8000000 in
set_option maxRecDepth 100000 in
theorem rremove_any (L : List ((Int × Int) × Nat)) (v : Value) (ok : Nat → Prop) (w : World) (hv : Sl w v L.length (fl L) ok) (hL : L.length ≤ 1000000) (i : Int) :
    Calls Try.prog 21 #[v, .int .i64 i] w fun e w' => ∃ u, e = .returned u ∧ Sl w' u (remI L i).length (fl (remI L i)) (fun g => w.heap.size ≤ g) ∧ Below w.heap.size w w' := by
  obtain ⟨a, cap, rfl, hc1, hc2, hcell⟩ := hv
  have HC := Lib.hid hcell
  obtain ⟨len, hlen⟩ : ∃ n : Nat, L.length = n := ⟨_, rfl⟩
  have HL := Lib.hid hlen
  rw [hlen] at hc1 hL ⊢
  clear hcell hlen hc1 hc2
  go_enter Try.func21, Try.ntmps21
  go_wp2_with fail
  go_loopw [5, 6] (fun u z wr => ∃ t : Nat, z = .int .i64 t ∧ t ≤ len ∧ wr.ownsRow w.heap.size 77 3 u (remI (L.take t) i).length (fl (remI (L.take t) i)) ∧ Below w.heap.size w wr) (fun _ z _ => len - (intOf z).toNat)
  case atStart => exact ⟨0, rfl, by omega, ⟨rfl, .inl ⟨rfl, rfl⟩⟩, Below.refl _ _⟩
  case round =>
    obtain ⟨t, rfl, ht, hO, hB⟩ := hrel
    have HO := Lib.hid hO
    have HB := Lib.hid hB
    by_cases hlt : t < len
    · have d1 : decide ((t : Int) < (len : Int)) = true := dec_t (by omega)
      obtain ⟨g, rfl, hg, _, hcl⟩ := HC.out (by rw [HL.out]; omega)
      have htl : t < L.length := by rw [HL.out]; exact hlt
      obtain ⟨⟨⟨k1, k2⟩, x⟩, hp⟩ : ∃ p, L[t] = p := ⟨_, rfl⟩
      have hq0 : w.cell? ⟨g, t * 3, none⟩ = some (.int .i64 k1) := hcl (t * 3 + 0) _ (fl_get htl hp (c := 0) rfl)
      have hq1 : w.cell? ⟨g, t * 3 + 1, none⟩ = some (.int .i64 k2) := hcl _ _ (fl_get htl hp (c := 1) rfl)
      have hq2 : w.cell? ⟨g, t * 3 + 2, none⟩ = some (.int .i64 (x : Int)) := hcl _ _ (fl_get htl hp (c := 2) rfl)
      have hti : (t : Int) < (len : Int) := by omega
      have HP := Lib.hid hp
      clear hcl hp
      have y0 := (hB.cell (p := ⟨g, t * 3, none⟩) hg).trans hq0
      have y1 := (hB.cell (p := ⟨g, t * 3 + 1, none⟩) hg).trans hq1
      have y2 := (hB.cell (p := ⟨g, t * 3 + 2, none⟩) hg).trans hq2
      have w1 := wrap_succ (show t ≤ 1000000 by omega)
      have HLE := Lib.hid (show (remI (L.take t) i).length ≤ 1000000000 by have := remI_le L i t; rw [HL.out] at this; omega)
      have HT := Lib.hid (remI_take (i := i) htl)
      clear hO hB hq0 hq1 hq2
      by_cases hx : (x : Int) = i
      · have hb : (((x : Nat) : Int) != i) = false := by simp [hx]
        have HX := Lib.hid hx
        clear hx
        go_wp2_with fail
        go_roundw
        case measure => exact step_lt hlt
        case rel =>
          refine ⟨t + 1, by simp, by omega, ?_, HB.out⟩
          have h1 := HT.out
          rw [HP.out] at h1
          dsimp only at h1
          rw [if_neg (fun h => h HX.out), List.append_nil] at h1
          rw [h1]
          exact HO.out
      · have hb : (((x : Nat) : Int) != i) = true := by simp [hx]
        have HX := Lib.hid hx
        clear hx
        go_wp2_with (at_builtin; refine wpList_grow1_at rfl (.tmp 20) (.tmp 25) 44 rfl w.heap.size 77 3 24 Try.underlying44 (by kernel_rfl) (by decide) (by decide) _ _ _ rfl HO.out [.int .i64 k1, .int .i64 k2, .int .i64 (x : Int)] rfl rfl (by simp [Value.oneCell']) HLE.out HB.out.size _ ?_; intro v' w2 hown' ho' _; have HO2 := Lib.hid hown'; have HB2 := Lib.hid (Only.below HB.out ho' (fun k hk => (ownsRow_base HO.out k hk.symm).1) HB.out.size); clear hown' ho')
        go_roundw
        case measure => exact step_lt hlt
        case rel =>
          refine ⟨t + 1, by simp, by omega, ?_, HB2.out⟩
          have h1 := HT.out
          rw [HP.out] at h1
          dsimp only at h1
          rw [if_pos HX.out] at h1
          rw [h1, List.length_append, fl_snoc]
          exact HO2.out
    · obtain rfl : t = len := by omega
      have d1 : decide ((t : Int) < (t : Int)) = false := dec_f (by omega)
      have hr : remI (L.take t) i = remI L i := by have := remI_full L i; rw [HL.out] at this; exact this
      rw [hr] at hO
      have HO3 := Lib.hid hO
      clear hO hB HO hr
      go_wp2_with fail
      go_ret
      exact ⟨_, rfl, Sl.of_own HO3.out, HB.out⟩

theorem ofK_take {L : List ((Int × Int) × Nat)} {k : Int × Int} {t : Nat} (h : t < L.length) : ofK (L.take (t + 1)) k = ofK (L.take t) k ++ if L[t].1 = k then [L[t].2] else [] := by
  rw [List.take_succ_eq_append_getElem h, ofK_app]
  congr 1
  unfold ofK
  by_cases hx : L[t].1 = k
  · simp [hx]
  · simp [hx]
theorem ofK_len_le (L : List ((Int × Int) × Nat)) (k : Int × Int) : (ofK L k).length ≤ L.length := by
  unfold ofK
  rw [List.length_map]
  exact List.length_filter_le _ _
theorem eql_pair (a b c d : Int) (w : World) : (binOp .eql 28 (.agg #[.int .i64 a, .int .i64 b]) (.agg #[.int .i64 c, .int .i64 d])).run Try.prog w = .ok (.bool (decide ((a, b) = (c, d)))) w := eql_ek (a, b) (c, d) w
theorem neq_pair (a b c d : Int) (w : World) : (binOp .neq 28 (.agg #[.int .i64 a, .int .i64 b]) (.agg #[.int .i64 c, .int .i64 d])).run Try.prog w = .ok (.bool (!decide ((a, b) = (c, d)))) w := neq_ek (a, b) (c, d) w
set_option maxHeartbeats 8000000 in
set_option maxRecDepth 100000 in
theorem rall_any (L : List ((Int × Int) × Nat)) (v : Value) (ok : Nat → Prop) (w : World) (hv : Sl w v L.length (fl L) ok) (hL : L.length ≤ 1000000) (q1 q2 : Int) :
    Calls Try.prog 22 #[v, .agg #[.int .i64 q1, .int .i64 q2]] w fun e w' => ∃ u, e = .returned u ∧ Lst .i64 w' u (zs (ofK L (q1, q2))) (fun g => w.heap.size ≤ g) ∧ Below w.heap.size w w' := by
  obtain ⟨a, cap, rfl, hc1, hc2, hcell⟩ := hv
  have HC := Lib.hid hcell
  obtain ⟨len, hlen⟩ : ∃ n : Nat, L.length = n := ⟨_, rfl⟩
  have HL := Lib.hid hlen
  rw [hlen] at hc1 hL ⊢
  clear hcell hlen hc1 hc2
  have hgw : 0 < len → ∃ g, a = some ⟨g, 0, none⟩ ∧ g < w.heap.size := fun h => by obtain ⟨g, h1, h2, -⟩ := HC.out (by rw [HL.out]; exact h); exact ⟨g, h1, h2⟩
  obtain ⟨W, hW⟩ : ∃ W, w.alloc (.cells #[.int .i64 q1, .int .i64 q2] 28 ) = W := ⟨_, rfl⟩
  have hX : RowAt W w.heap.size #[.int .i64 q1, .int .i64 q2] 28 := hW ▸ RowAt.new w _ _
  have hWs : W.heap.size = w.heap.size + 1 := by rw [← hW]; simp
  have hbW : Below w.heap.size w W := hW ▸ below_new (Below.refl _ _) _
  have HW := Lib.hid (And.intro hX (And.intro hWs hbW))
  have HGW := Lib.hid hgw
  clear hX hWs hbW hgw
  go_enter Try.func22, Try.ntmps22
  go_wp2_with fail
  clear hW
  go_loopw [5, 6] (fun u z wr => ∃ t : Nat, z = .int .i64 t ∧ t ≤ len ∧ wr.ownsRow (w.heap.size + 1) 3 1 u (ofK (L.take t) (q1, q2)).length (ic (ofK (L.take t) (q1, q2))) ∧ Below (w.heap.size + 1) W wr) (fun _ z _ => len - (intOf z).toNat)
  case atStart => exact ⟨0, rfl, by omega, ⟨rfl, .inl ⟨rfl, rfl⟩⟩, HW.out.2.1 ▸ Below.refl _ _⟩
  case round =>
    obtain ⟨t, rfl, ht, hO, hB⟩ := hrel
    have HO := Lib.hid hO
    have HB := Lib.hid hB
    by_cases hlt : t < len
    · have d1 : decide ((t : Int) < (len : Int)) = true := dec_t (by omega)
      obtain ⟨g, rfl, hg, _, hcl⟩ := HC.out (by rw [HL.out]; omega)
      have htl : t < L.length := by rw [HL.out]; exact hlt
      obtain ⟨⟨⟨k1, k2⟩, x⟩, hp⟩ : ∃ p, L[t] = p := ⟨_, rfl⟩
      have hq0 : w.cell? ⟨g, t * 3, none⟩ = some (.int .i64 k1) := hcl (t * 3 + 0) _ (fl_get htl hp (c := 0) rfl)
      have hq1 : w.cell? ⟨g, t * 3 + 1, none⟩ = some (.int .i64 k2) := hcl _ _ (fl_get htl hp (c := 1) rfl)
      have hq2 : w.cell? ⟨g, t * 3 + 2, none⟩ = some (.int .i64 (x : Int)) := hcl _ _ (fl_get htl hp (c := 2) rfl)
      have hti : (t : Int) < (len : Int) := by omega
      have HP := Lib.hid hp
      clear hcl hp
      have hbw : Below w.heap.size w wr := HW.out.2.2.trans (hB.mono (by omega))
      have y0 : ∀ z : Ext wr.heap.size wr, z.world.cell? ⟨g, t * 3, none⟩ = some (.int .i64 k1) := fun z => ((below_then hbw z.ok).cell (p := ⟨g, t * 3, none⟩) hg).trans hq0
      have y1 : ∀ z : Ext wr.heap.size wr, z.world.cell? ⟨g, t * 3 + 1, none⟩ = some (.int .i64 k2) := fun z => ((below_then hbw z.ok).cell (p := ⟨g, t * 3 + 1, none⟩) hg).trans hq1
      have y2 : ∀ z, Below wr.heap.size wr z → z.cell? ⟨g, t * 3 + 2, none⟩ = some (.int .i64 (x : Int)) := fun z hz => ((below_then hbw hz).cell (p := ⟨g, t * 3 + 2, none⟩) hg).trans hq2
      obtain ⟨hkX, _⟩ := Ext.cells (RowAt.below HW.out.1 hB (by omega))
      have z0 : ∀ z : Ext wr.heap.size wr, z.world.cell? ⟨w.heap.size, 0, none⟩ = some (.int .i64 q1) := fun z => hkX z 0
      have z1 : ∀ z : Ext wr.heap.size wr, z.world.cell? ⟨w.heap.size, 1, none⟩ = some (.int .i64 q2) := fun z => hkX z 1
      have HY2 := Lib.hid y2
      have w1 := wrap_succ (show t ≤ 1000000 by omega)
      have HLE := Lib.hid (show (ofK (L.take t) (q1, q2)).length ≤ 1000000000 by have := ofK_len_le (L.take t) (q1, q2); rw [List.length_take] at this; omega)
      have HT := Lib.hid (ofK_take (k := (q1, q2)) htl)
      have hq := eql_pair k1 k2 q1 q2
      clear hO hB hq0 hq1 hq2 y2 hkX hbw
      by_cases hx : (k1, k2) = (q1, q2)
      · rw [decide_eq_true hx] at hq
        have HX := Lib.hid hx
        clear hx
        go_upto_region 5 with fail
        refine wp_start (w := wr) ?_
        intro x0
        refine wp_region_ext _ (by kernel_rfl) (by kernel_rfl) ?_
        repeat (first | (refine wpQuiet_eql_agg rfl 28 KT (.tmp 17) (.tmp 18) rfl _ _ rfl rfl true Try.eqGuardType28 hq ?_; simp only [Act.put, List.setIfInBounds_toArray, List.set_cons_succ, List.set_cons_zero]) | go_big_quiet_step (fail))
        refine wpQuiet_nil ?_
        rintro _ ⟨y, rfl⟩
        have y2 := HY2.out _ y.ok
        have HOY := Lib.hid (ownsRow_only HO.out (only_of y.ok (fun _ => False)) (fun _ _ => id))
        have HBY := Lib.hid (HB.out.trans (y.ok.mono (by have h1 := HW.out.2.1; have h2 := HB.out.size; omega)))
        clear y0 y1 z0 z1 hq HO HB
        have HO := Lib.hid HOY.out
        have HB := Lib.hid HBY.out
        clear HOY HBY
        go_wp2_with (at_builtin; refine wpList_grow1_at rfl (.tmp 20) (.tmp 26) 40 rfl (w.heap.size + 1) 3 1 8 Try.underlying40 (by kernel_rfl) (by decide) (by decide) _ _ _ rfl HO.out [.int .i64 (x : Int)] rfl rfl (by simp [Value.oneCell']) HLE.out (by have h1 := HW.out.2.1; have h2 := HB.out.size; omega) _ ?_; intro v' w2 hown' ho' _; have HO2 := Lib.hid hown'; have HB2 := Lib.hid (Only.below HB.out ho' (fun k hk => (ownsRow_base HO.out k hk.symm).1) (by have h1 := HW.out.2.1; have h2 := HB.out.size; omega)); clear hown' ho')
        go_roundw
        case measure => exact step_lt hlt
        case rel =>
          refine ⟨t + 1, by simp, by omega, ?_, HB2.out⟩
          have h1 := HT.out
          rw [HP.out] at h1
          dsimp only at h1
          rw [if_pos HX.out] at h1
          rw [h1, List.length_append, ic_snoc]
          exact HO2.out
      · rw [decide_eq_false hx] at hq
        have HX := Lib.hid hx
        clear hx
        go_upto_region 5 with fail
        refine wp_start (w := wr) ?_
        intro x0
        refine wp_region_ext _ (by kernel_rfl) (by kernel_rfl) ?_
        repeat (first | (refine wpQuiet_eql_agg rfl 28 KT (.tmp 17) (.tmp 18) rfl _ _ rfl rfl false Try.eqGuardType28 hq ?_; simp only [Act.put, List.setIfInBounds_toArray, List.set_cons_succ, List.set_cons_zero]) | go_big_quiet_step (fail))
        refine wpQuiet_nil ?_
        rintro _ ⟨y, rfl⟩
        have HOY := Lib.hid (ownsRow_only HO.out (only_of y.ok (fun _ => False)) (fun _ _ => id))
        have HBY := Lib.hid (HB.out.trans (y.ok.mono (by have h1 := HW.out.2.1; have h2 := HB.out.size; omega)))
        clear y0 y1 z0 z1 hq
        go_wp2_with fail
        go_roundw
        case measure => exact step_lt hlt
        case rel =>
          refine ⟨t + 1, by simp, by omega, ?_, HBY.out⟩
          have h1 := HT.out
          rw [HP.out] at h1
          dsimp only at h1
          rw [if_neg HX.out, List.append_nil] at h1
          rw [h1]
          exact HOY.out
    · obtain rfl : t = len := by omega
      have d1 : decide ((t : Int) < (t : Int)) = false := dec_f (by omega)
      have hr : L.take t = L := by rw [← HL.out, List.take_length]
      rw [hr] at hO
      have HO3 := Lib.hid hO
      clear hO hB HO hr
      go_wp2_with fail
      go_ret
      refine ⟨_, rfl, ?_, HW.out.2.2.trans (HB.out.mono (by omega))⟩
      have h := HO3.out
      have h2 : (ofK L (q1, q2)).length = (zs (ofK L (q1, q2))).length := by unfold zs; simp
      have h3 : ic (ofK L (q1, q2)) = (zs (ofK L (q1, q2))).map (Value.int .i64) := by simp [ic, zs]
      rw [h2, h3] at h
      exact (Lst.of_own h).mono fun g hg => by omega

theorem ofK_at {L : List ((Int × Int) × Nat)} {k : Int × Int} {s : Nat} (h : s < L.length) : ofK (L.drop s) k = (if L[s].1 = k then [L[s].2] else []) ++ ofK (L.drop (s + 1)) k := by
  rw [List.drop_eq_getElem_cons h]
  unfold ofK
  rw [List.filter_cons]
  by_cases hx : L[s].1 = k
  · simp [hx]
  · simp [hx]
theorem ofK_skip {L : List ((Int × Int) × Nat)} {k : Int × Int} : ∀ (d m : Nat), m + d ≤ L.length → (∀ j (h : j < L.length), m ≤ j → j < m + d → L[j].1 ≠ k) → ofK (L.drop m) k = ofK (L.drop (m + d)) k
  | 0, m, _, _ => rfl
  | d + 1, m, hl, hn => by
    rw [ofK_at (show m < L.length by omega), if_neg (hn m (by omega) (Nat.le_refl _) (by omega)), List.nil_append, ofK_skip d (m + 1) (by omega) (fun j h h1 h2 => hn j h (by omega) (by omega)), show m + 1 + d = m + (d + 1) by omega]
/-- What Next answers. -/
def NextP (L : List ((Int × Int) × Nat)) (i r : Int) : Prop := (r = -1 ∧ ∀ p ∈ L, (p.2 : Int) ≠ i) ∨ ∃ t : Nat, ∃ h : t < L.length, (L[t].2 : Int) = i ∧ r = headI (ofK (L.drop (t + 1)) L[t].1)
set_option maxHeartbeats 8000000 in
set_option maxRecDepth 100000 in
theorem rnext_any (L : List ((Int × Int) × Nat)) (v : Value) (ok : Nat → Prop) (w : World) (hv : Sl w v L.length (fl L) ok) (hL : L.length ≤ 1000000) (i : Int) :
    Calls Try.prog 44 #[v, .int .i64 i] w fun e w' => ∃ r, e = .returned (.int .i64 r) ∧ NextP L i r ∧ Below w.heap.size w w' := by
  have hfd := rfind_any L v ok w hv hL i
  have HF := Lib.hid hfd
  clear hfd
  obtain ⟨a, cap, rfl, hc1, hc2, hcell⟩ := hv
  have HC := Lib.hid hcell
  obtain ⟨len, hlen⟩ : ∃ n : Nat, L.length = n := ⟨_, rfl⟩
  have HL := Lib.hid hlen
  rw [hlen] at hc1 hL ⊢
  clear hcell hlen hc1 hc2
  rw [HL.out] at HF
  go_enter Try.func44, Try.ntmps44
  go_upto_region 2 with (go_at_call 20; refine HF.out.mono ?_; rintro e w1 ⟨r, rfl, hfp, rfl⟩)
  clear HF
  rcases hfp with ⟨rfl, hno⟩ | ⟨t, rfl, ht, hit⟩
  · have HN := Lib.hid hno
    clear hno
    go_wp2_with fail
    go_ret
    exact ⟨_, rfl, .inl ⟨rfl, HN.out⟩, Below.refl _ _⟩
  · have htl : t < len := by rw [← HL.out]; exact ht
    have d0 : decide ((t : Int) < 0) = false := dec_f (by omega)
    have hw1 := wrap_succ (show t ≤ 1000000 by omega)
    obtain ⟨g, rfl, hg, _, hcl⟩ := HC.out (by rw [HL.out]; omega)
    obtain ⟨⟨⟨k1, k2⟩, x⟩, hp⟩ : ∃ p, L[t] = p := ⟨_, rfl⟩
    have e0 : ∀ z, Below w.heap.size w z → z.cell? ⟨g, t * 3, none⟩ = some (.int .i64 k1) := fun z hz => (hz.cell (p := ⟨g, t * 3, none⟩) hg).trans (hcl (t * 3 + 0) _ (fl_get ht hp (c := 0) rfl))
    have e1 : ∀ z, Below w.heap.size w z → z.cell? ⟨g, t * 3 + 1, none⟩ = some (.int .i64 k2) := fun z hz => (hz.cell (p := ⟨g, t * 3 + 1, none⟩) hg).trans (hcl _ _ (fl_get ht hp (c := 1) rfl))
    have HE := Lib.hid (And.intro e0 e1)
    have HPT := Lib.hid hp
    have HIT := Lib.hid hit
    clear e0 e1 hp hit hcl
    go_wp2_with fail
    go_loopw [6] (fun u wr => ∃ s : Nat, u = .int .i64 ((s : Int)) ∧ t + 1 ≤ s ∧ s ≤ len ∧ (∀ j (h : j < L.length), t + 1 ≤ j → j < s → L[j].1 ≠ (k1, k2)) ∧ Below w.heap.size w wr) (fun u _ => len - (intOf u).toNat)
    case atStart => exact ⟨t + 1, by simp, Nat.le_refl _, by omega, fun j h h1 h2 => by omega, Below.refl _ _⟩
    case round =>
      clear hw1
      obtain ⟨s, rfl, hs1, hs2, hno, hB⟩ := hrel
      have HNO := Lib.hid hno
      have HB := Lib.hid hB
      clear hno hB
      by_cases hlt : s < len
      · have d1 : decide ((s : Int) < (len : Int)) = true := dec_t (by omega)
        have hsl : s < L.length := by rw [HL.out]; exact hlt
        obtain ⟨⟨⟨h1, h2⟩, y⟩, hq⟩ : ∃ p, L[s] = p := ⟨_, rfl⟩
        obtain ⟨g', hgg, -, -, hcl⟩ := HC.out (by rw [HL.out]; omega)
        obtain rfl : g = g' := by injection hgg with hgg; injection hgg
        have y0 : ∀ z : Ext wr.heap.size wr, z.world.cell? ⟨g, s * 3, none⟩ = some (.int .i64 h1) := fun z => ((below_then HB.out z.ok).cell (p := ⟨g, s * 3, none⟩) hg).trans (hcl (s * 3 + 0) _ (fl_get hsl hq (c := 0) rfl))
        have y1 : ∀ z : Ext wr.heap.size wr, z.world.cell? ⟨g, s * 3 + 1, none⟩ = some (.int .i64 h2) := fun z => ((below_then HB.out z.ok).cell (p := ⟨g, s * 3 + 1, none⟩) hg).trans (hcl _ _ (fl_get hsl hq (c := 1) rfl))
        have HY2 : Hid (∀ z, Below wr.heap.size wr z → z.cell? ⟨g, s * 3 + 2, none⟩ = some (.int .i64 (y : Int))) := Lib.hid fun z hz => ((below_then HB.out hz).cell (p := ⟨g, s * 3 + 2, none⟩) hg).trans (hcl _ _ (fl_get hsl hq (c := 2) rfl))
        have z0 : ∀ z : Ext wr.heap.size wr, z.world.cell? ⟨g, t * 3, none⟩ = some (.int .i64 k1) := fun z => HE.out.1 _ (below_then HB.out z.ok)
        have z1 : ∀ z : Ext wr.heap.size wr, z.world.cell? ⟨g, t * 3 + 1, none⟩ = some (.int .i64 k2) := fun z => HE.out.2 _ (below_then HB.out z.ok)
        have w1 := wrap_succ (show s ≤ 1000000 by omega)
        have hsi : (s : Int) < (len : Int) := by omega
        have hti : (t : Int) < (len : Int) := by omega
        have hqq := eql_pair h1 h2 k1 k2
        have HQ := Lib.hid hq
        clear hcl hgg hq
        by_cases hx : (h1, h2) = (k1, k2)
        · rw [decide_eq_true hx] at hqq
          have HX := Lib.hid hx
          clear hx
          go_upto_region 7 with fail
          refine wp_start (w := wr) ?_
          intro x0
          refine wp_region_ext _ (by kernel_rfl) (by kernel_rfl) ?_
          repeat (first | (refine wpQuiet_eql_agg rfl 28 KT (.tmp 24) (.tmp 29) rfl _ _ rfl rfl true Try.eqGuardType28 hqq ?_; simp only [Act.put, List.setIfInBounds_toArray, List.set_cons_succ, List.set_cons_zero]) | go_big_quiet_step (fail))
          refine wpQuiet_nil ?_
          rintro _ ⟨z, rfl⟩
          have y2 := HY2.out _ z.ok
          clear y0 y1 z0 z1 hqq
          go_wp2_with fail
          go_ret
          refine ⟨_, rfl, .inr ⟨t, ht, ?_, ?_⟩, below_then HB.out z.ok⟩
          · rw [HPT.out]; have := HIT.out; rw [HPT.out] at this; exact this
          · rw [HPT.out, ofK_skip (s - (t + 1)) (t + 1) (by omega) (fun j h ha hb => HNO.out j h ha (by omega)), show t + 1 + (s - (t + 1)) = s by omega, ofK_at hsl, HQ.out, if_pos HX.out]
            rfl
        · rw [decide_eq_false hx] at hqq
          have HX := Lib.hid hx
          clear hx
          go_upto_region 7 with fail
          refine wp_start (w := wr) ?_
          intro x0
          refine wp_region_ext _ (by kernel_rfl) (by kernel_rfl) ?_
          repeat (first | (refine wpQuiet_eql_agg rfl 28 KT (.tmp 24) (.tmp 29) rfl _ _ rfl rfl false Try.eqGuardType28 hqq ?_; simp only [Act.put, List.setIfInBounds_toArray, List.set_cons_succ, List.set_cons_zero]) | go_big_quiet_step (fail))
          refine wpQuiet_nil ?_
          rintro _ ⟨z, rfl⟩
          have HZ := Lib.hid z.ok
          clear y0 y1 z0 z1 hqq
          go_wp2_with fail
          go_roundw
          case measure => exact step_lt hlt
          case rel =>
            refine ⟨s + 1, by simp, by omega, by omega, fun j h ha hb => ?_, below_then HB.out HZ.out⟩
            by_cases hj : j = s
            · subst hj
              rw [HQ.out]
              exact HX.out
            · exact HNO.out j h ha (by omega)
      · obtain rfl : s = len := by omega
        have d1 : decide ((s : Int) < (s : Int)) = false := dec_f (by omega)
        go_wp2_with fail
        go_ret
        refine ⟨_, rfl, .inr ⟨t, ht, ?_, ?_⟩, HB.out⟩
        · rw [HPT.out]; have := HIT.out; rw [HPT.out] at this; exact this
        · rw [HPT.out, ofK_skip (s - (t + 1)) (t + 1) (by have := HL.out; omega) (fun j h ha hb => HNO.out j h ha (by omega)), show t + 1 + (s - (t + 1)) = L.length by have := HL.out; omega, List.drop_length]
          rfl

theorem slice_eq {L : List ((Int × Int) × Nat)} {v : Value} {n : Nat} {ok : Nat → Prop} {w : World} (hv : Sl w v n (fl L) ok) : ∃ b c, v = .slice b n c ∧ (0 < n → ∃ p : Addr, b = some p ∧ ∀ (k : Nat) (y : Value), (fl L)[k]? = some y → w.cell? (p.add k) = some y) := by
  obtain ⟨a, c, rfl, -, -, h⟩ := hv
  refine ⟨a, c, rfl, fun h0 => ?_⟩
  obtain ⟨g, q1, q2, q3, q4⟩ := h h0
  refine ⟨_, q1, fun k y hk => ?_⟩
  rw [addr_add, Nat.zero_add]
  exact q4 k y hk
theorem own_empty3 (w : World) (e : TypeId) (sz : Nat) {base : Nat} (hb : base ≤ w.heap.size) : (w.alloc (.cells #[] e)).ownsRow base e sz (.slice (some ⟨w.heap.size, 0, none⟩) 0 0) 0 [] :=
  ⟨by simp, .inr ⟨w.heap.size, 0, #[], rfl, hb, heap_alloc_new w _, Nat.le_refl _, by unfold maxLen; omega, by simp, by simp⟩⟩
/-- One element of three cells in a block. -/
theorem one3 {W : World} {g : Nat} {x : (Int × Int) × Nat} (h : RowAt W g (f3 x).toArray 77) : ∃ b c, (Value.slice (some ⟨g, 0, none⟩) 1 1) = .slice b 1 c ∧ (0 < 1 → ∃ p : Addr, b = some p ∧ ∀ (k : Nat) (y : Value), (f3 x)[k]? = some y → W.cell? (p.add k) = some y) := by
  refine ⟨_, _, rfl, fun _ => ⟨_, rfl, fun k y hk => ?_⟩⟩
  rw [addr_add, Nat.zero_add]
  exact h.cell (by rw [List.getElem?_toArray]; exact hk)
theorem fin3 {w x : World} {u : Value} {L : List ((Int × Int) × Nat)} {p : (Int × Int) × Nat} (o : x.ownsRow w.heap.size 77 3 u (0 + L.length + 1) ([] ++ fl L ++ f3 p)) : Sl x u (L.length + 1) (fl (L ++ [p])) (fun g => w.heap.size ≤ g) := by
  rw [Nat.zero_add, List.nil_append, ← fl_snoc] at o
  exact Sl.of_own o
theorem f3_one (x : (Int × Int) × Nat) : ∀ y ∈ f3 x, y.oneCell' = true := by
  intro y hy
  simp only [f3, List.mem_cons, List.not_mem_nil, or_false] at hy
  rcases hy with rfl | rfl | rfl <;> rfl
set_option maxHeartbeats 8000000 in
set_option maxRecDepth 100000 in
theorem rpush_no (L : List ((Int × Int) × Nat)) (v : Value) (ok : Nat → Prop) (w : World) (hv : Sl w v L.length (fl L) ok) (hL : L.length ≤ 1000000) (room q1 q2 i : Int) (h : i < 0 ∨ room ≤ i ∨ ∃ p ∈ L, (p.2 : Int) = i) :
    Calls Try.prog 19 #[v, .int .i64 room, .agg #[.int .i64 q1, .int .i64 q2], .int .i64 i] w fun e w' => e = .returned (.tuple #[v, .bool false]) ∧ Below w.heap.size w w' := by
  have hf := rfind_any L v ok (w.alloc (.cells #[.int .i64 q1, .int .i64 q2] 28 )) (hv.ext (below_new (Below.refl _ _) _)) hL i
  have HF := Lib.hid hf
  have hb1 : Below w.heap.size w (w.alloc (.cells #[.int .i64 q1, .int .i64 q2] 28 )) := below_new (Below.refl _ _) _
  have HB := Lib.hid hb1
  obtain ⟨a, cap, rfl, -⟩ := hv
  clear hf hb1
  by_cases h1 : i < 0
  · have d1 := dec_t h1
    clear h h1
    go_enter Try.func19, Try.ntmps19
    go_wp2_with fail
    refine bodyPost_ret (v := .tuple #[.slice a L.length cap, .bool false]) (by simp [results, Try.results19, go_sem]) rfl ⟨rfl, HB.out⟩
  · have d1 := dec_f h1
    by_cases h2 : room ≤ i
    · have d2 := dec_t h2
      clear h h1 h2
      go_enter Try.func19, Try.ntmps19
      go_wp2_with fail
      refine bodyPost_ret (v := .tuple #[.slice a L.length cap, .bool false]) (by simp [results, Try.results19, go_sem]) rfl ⟨rfl, HB.out⟩
    · have d2 := dec_f h2
      have h3 := (h.resolve_left h1).resolve_left h2
      have H3 := Lib.hid h3
      clear h h1 h2 h3
      go_enter Try.func19, Try.ntmps19
      go_wp2_with (go_at_call 20; refine HF.out.mono ?_; rintro e w1 ⟨r, rfl, hfp, rfl⟩; have d3 : decide (0 ≤ r) = true := (by refine dec_t ?_; rcases hfp with ⟨_, hno⟩ | ⟨t, ht, _⟩; (obtain ⟨p, hp, he⟩ := H3.out; exact absurd he (hno p hp)); (rw [ht]; omega)); clear hfp)
      refine bodyPost_ret (v := .tuple #[.slice a L.length cap, .bool false]) (by simp [results, Try.results19, go_sem]) rfl ⟨rfl, HB.out⟩
set_option maxHeartbeats 8000000 in
set_option maxRecDepth 100000 in
theorem rpush_yes (L : List ((Int × Int) × Nat)) (v : Value) (ok : Nat → Prop) (w : World) (hv : Sl w v L.length (fl L) ok) (hL : L.length ≤ 1000000) (room q1 q2 : Int) (j : Nat) (h1 : (j : Int) < room) (h2 : ∀ p ∈ L, p.2 ≠ j) :
    Calls Try.prog 19 #[v, .int .i64 room, .agg #[.int .i64 q1, .int .i64 q2], .int .i64 j] w fun e w' => ∃ u, e = .returned (.tuple #[u, .bool true]) ∧ Sl w' u (L.length + 1) (fl (L ++ [((q1, q2), j)])) (fun g => w.heap.size ≤ g) ∧ Below w.heap.size w w' := by
  obtain ⟨W, hW⟩ : ∃ W, w.alloc (.cells #[.int .i64 q1, .int .i64 q2] 28 ) = W := ⟨_, rfl⟩
  have hbW : Below w.heap.size w W := hW ▸ below_new (Below.refl _ _) _
  have hX : RowAt W w.heap.size #[.int .i64 q1, .int .i64 q2] 28 := hW ▸ RowAt.new w _ _
  have hsW : W.heap.size = w.heap.size + 1 := by rw [← hW]; simp
  have hf := rfind_any L v ok W (hv.ext hbW) hL j
  have HF := Lib.hid hf
  obtain ⟨p, hp⟩ : ∃ p : (Int × Int) × Nat, p = ((q1, q2), j) := ⟨_, rfl⟩
  have hc3 : (f3 p).toArray = #[.int .i64 q1, .int .i64 q2, .int .i64 (j : Int)] := by rw [hp]; rfl
  have hvS := fun X (hX : Below w.heap.size w X) => slice_eq (hv.ext hX)
  have hD : Below W.heap.size W W.drew := (Below.refl _ _).drew
  have XR : ∀ X : World, X.alloc (.cells (f3 p).toArray 77) = X.alloc (.cells #[.int .i64 q1, .int .i64 q2, .int .i64 (j : Int)] 77) := fun X => by rw [hc3]
  have HSZ := Lib.hid hsW
  -- the empty row first, the list, then the new thing
  have A0 := own_empty3 W.drew 77 3 (base := W.heap.size) hD.size
  have bA0 : Below W.heap.size W (W.drew.alloc (.cells #[] 77)) := below_new hD _
  obtain ⟨vA, wA, rA, oA, yA, -⟩ := run_append_l 44 44 W.heap.size 77 3 24 Try.underlying44 (by kernel_rfl) (by decide) (by decide) _ 0 [] A0 v L.length (fl L) (hvS _ (below_then hbW bA0)) (fl_len L) (fl_one L) (by omega) bA0.size
  have bA1 : Below W.heap.size W wA := Only.below bA0 yA (fun k hk => by have hk' : some k = some W.heap.size := hk; injection hk' with hk'; omega) bA0.size
  have bA1' := below_new bA1 (.cells (f3 p).toArray 77)
  obtain ⟨uA, xA, sA, tA, zA, -⟩ := run_append_l 44 44 W.heap.size 77 3 24 Try.underlying44 (by kernel_rfl) (by decide) (by decide) _ (0 + L.length) _ (oA.alloc (.cells (f3 p).toArray 77)) _ 1 (f3 p) (one3 (RowAt.new wA _ 77)) rfl (f3_one p) (by omega) bA1'.size
  have bA2 : Below W.heap.size W xA := Only.below bA1' zA (fun k hk => (ownsRow_base oA k hk.symm).1) bA1'.size
  -- the empty row, the new thing, then the list
  have bB0 : Below W.heap.size W ((W.drew.alloc (.cells #[] 77)).alloc (.cells (f3 p).toArray 77)) := below_new bA0 _
  obtain ⟨vB, wB, rB, oB, yB, -⟩ := run_append_l 44 44 W.heap.size 77 3 24 Try.underlying44 (by kernel_rfl) (by decide) (by decide) _ 0 [] (A0.alloc (.cells (f3 p).toArray 77)) v L.length (fl L) (hvS _ (below_then hbW bB0)) (fl_len L) (fl_one L) (by omega) bB0.size
  have bB1 : Below W.heap.size W wB := Only.below bB0 yB (fun k hk => by have hk' : some k = some W.heap.size := hk; injection hk' with hk'; omega) bB0.size
  have gB : RowAt ((W.drew.alloc (.cells #[] 77)).alloc (.cells (f3 p).toArray 77)) (W.heap.size + 1) (f3 p).toArray 77 := by
    have := RowAt.new (W.drew.alloc (.cells #[] 77)) (f3 p).toArray 77
    rw [World.size_alloc] at this
    exact this
  obtain ⟨uB, xB, sB, tB, zB, -⟩ := run_append_l 44 44 W.heap.size 77 3 24 Try.underlying44 (by kernel_rfl) (by decide) (by decide) _ (0 + L.length) _ oB _ 1 (f3 p) (one3 (gB.only yB (by rintro hk; have hk' : some (W.heap.size + 1) = some W.heap.size := hk; injection hk' with hk'; omega))) rfl (f3_one p) (by omega) bB1.size
  have bB2 : Below W.heap.size W xB := Only.below bB1 zB (fun k hk => (ownsRow_base oB k hk.symm).1) bB1.size
  -- the new thing, the empty row, then the list
  have bC' : Below W.heap.size W (W.drew.alloc (.cells (f3 p).toArray 77)) := below_new hD _
  have C0 := own_empty3 (W.drew.alloc (.cells (f3 p).toArray 77)) 77 3 (base := W.heap.size) bC'.size
  rw [World.size_alloc] at C0
  have bC0 : Below W.heap.size W ((W.drew.alloc (.cells (f3 p).toArray 77)).alloc (.cells #[] 77)) := below_new bC' _
  obtain ⟨vC, wC, rC, oC, yC, -⟩ := run_append_l 44 44 W.heap.size 77 3 24 Try.underlying44 (by kernel_rfl) (by decide) (by decide) _ 0 [] C0 v L.length (fl L) (hvS _ (below_then hbW bC0)) (fl_len L) (fl_one L) (by omega) bC0.size
  have bC1 : Below W.heap.size W wC := Only.below bC0 yC (fun k hk => by have hk' : some k = some (W.heap.size + 1) := hk; injection hk' with hk'; omega) bC0.size
  have gC : RowAt ((W.drew.alloc (.cells (f3 p).toArray 77)).alloc (.cells #[] 77)) W.heap.size (f3 p).toArray 77 := (RowAt.new W.drew (f3 p).toArray 77).alloc _
  obtain ⟨uC, xC, sC, tC, zC, -⟩ := run_append_l 44 44 W.heap.size 77 3 24 Try.underlying44 (by kernel_rfl) (by decide) (by decide) _ (0 + L.length) _ oC _ 1 (f3 p) (one3 (gC.only yC (by rintro hk; have hk' : some W.heap.size = some (W.heap.size + 1) := hk; injection hk' with hk'; omega))) rfl (f3_one p) (by omega) bC1.size
  have bC2 : Below W.heap.size W xC := Only.below bC1 zC (fun k hk => (ownsRow_base oC k hk.symm).1) bC1.size
  have FA := Lib.hid (And.intro (fin3 tA) (below_then hbW bA2))
  have FB := Lib.hid (And.intro (fin3 tB) (below_then hbW bB2))
  have FC := Lib.hid (And.intro (fin3 tC) (below_then hbW bC2))
  rw [hc3] at sA rB rC bA1' bB0 bC' bC0
  have rA' : (Builtin.append_ #[44, 44] 44 #[.slice (some ⟨W.heap.size, 0, none⟩) 0 0, v]).run Try.prog (W.alloc (.cells #[] 77)).drew = .ok vA wA := rA
  have rB' : (Builtin.append_ #[44, 44] 44 #[.slice (some ⟨W.heap.size, 0, none⟩) 0 0, v]).run Try.prog ((W.alloc (.cells #[] 77)).alloc (.cells #[.int .i64 q1, .int .i64 q2, .int .i64 (j : Int)] 77)).drew = .ok vB wB := rB
  have rC' : (Builtin.append_ #[44, 44] 44 #[.slice (some ⟨W.heap.size + 1, 0, none⟩) 0 0, v]).run Try.prog ((W.alloc (.cells #[.int .i64 q1, .int .i64 q2, .int .i64 (j : Int)] 77)).alloc (.cells #[] 77)).drew = .ok vC wC := rC
  have sA' : (Builtin.append_ #[44, 44] 44 #[vA, .slice (some ⟨wA.heap.size, 0, none⟩) 1 1]).run Try.prog (wA.alloc (.cells #[.int .i64 q1, .int .i64 q2, .int .i64 (j : Int)] 77)) = .ok uA xA := sA
  have HS := Lib.hid (fun X (hX' : Below W.heap.size W X) => (show X.cell? ⟨w.heap.size, 0, none⟩ = some (.int .i64 q1) ∧ X.cell? ⟨w.heap.size, 1, none⟩ = some (.int .i64 q2) from ⟨(RowAt.ext hX hX').cell (i := 0) rfl, (RowAt.ext hX hX').cell (i := 1) rfl⟩))
  have HF2 := Lib.hid (show decide ((j : Int) < 0) = false ∧ decide (room ≤ (j : Int)) = false from ⟨dec_f (by omega), dec_f (by omega)⟩)
  have HNO := Lib.hid h2
  have HPP := Lib.hid hp
  have B0 := Lib.hid (Below.refl W.heap.size W)
  have B1 := Lib.hid (hD)
  have B2 := Lib.hid (bA0)
  have B3 := Lib.hid (bA1)
  have B4 := Lib.hid (bA1')
  have B5 := Lib.hid (bB0)
  have B6 := Lib.hid (bB1)
  have B7 := Lib.hid (bC')
  have B8 := Lib.hid (bC0)
  have B9 := Lib.hid (bC1)
  have B10 := Lib.hid (bA2)
  have B11 := Lib.hid (bB2)
  have B12 := Lib.hid (bC2)
  have d1 := HF2.out.1
  have d2 := HF2.out.2
  clear hbW hX hsW hf hp hc3 hvS XR A0 bA0 oA yA bA1 bA1' tA zA bA2 bB0 oB yB bB1 gB tB zB bB2 bC' C0 bC0 oC yC bC1 gC tC zC bC2 rA rB rC sA hD h1 h2 hv
  go_enter Try.func19, Try.ntmps19
  go_upto_region 3 with (go_at_call 20; refine HF.out.mono ?_; rintro e w1 ⟨r, rfl, hfp, rfl⟩; have d3 : decide (0 ≤ r) = false := (by refine dec_f ?_; rcases hfp with ⟨hr, _⟩ | ⟨t, ht, ht2, ht3⟩; (rw [hr]; decide); (exact absurd (by omega) (HNO.out _ (List.getElem_mem ht2)))); clear hfp)
  go_region_held3 (fun X => X.cell? ⟨w.heap.size, 0, none⟩ = some (.int .i64 q1) ∧ X.cell? ⟨w.heap.size, 1, none⟩ = some (.int .i64 q2))
    (first | exact HS.out _ B1.out | exact HS.out _ B2.out | exact HS.out _ B3.out | exact HS.out _ B4.out | exact HS.out _ B5.out | exact HS.out _ B6.out | exact HS.out _ B7.out | exact HS.out _ B8.out | exact HS.out _ B9.out | exact HS.out _ B10.out | exact HS.out _ B11.out | exact HS.out _ B12.out | exact HS.out _ B0.out)
    (first | (rw [if_pos (by rfl)]; refine wp_append_eq (.slice (some ⟨W.heap.size, 0, none⟩) 0 0) v 44 44 rfl (.tmp 24) (.tmp 25) rfl rfl rfl (by with_reducible exact rA') ?_) | (rw [if_pos (by rfl)]; refine wp_append_eq (.slice (some ⟨W.heap.size, 0, none⟩) 0 0) v 44 44 rfl (.tmp 24) (.tmp 25) rfl rfl rfl (by with_reducible exact rB') ?_) | (rw [if_pos (by rfl)]; refine wp_append_eq (.slice (some ⟨W.heap.size + 1, 0, none⟩) 0 0) v 44 44 rfl (.tmp 24) (.tmp 25) rfl rfl rfl (by with_reducible exact rC') ?_) | (rw [if_pos (by rfl)]; refine wp_append_eq vA (.slice (some ⟨wA.heap.size, 0, none⟩) 1 1) 44 44 rfl (.tmp 26) (.tmp 30) rfl rfl rfl (by with_reducible exact sA') ?_) | (rw [if_pos (by rfl)]; refine wp_append_eq vB (.slice (some ⟨W.heap.size + 1, 0, none⟩) 1 1) 44 44 rfl (.tmp 26) (.tmp 30) rfl rfl rfl (by with_reducible exact sB) ?_) | (rw [if_pos (by rfl)]; refine wp_append_eq vC (.slice (some ⟨W.heap.size, 0, none⟩) 1 1) 44 44 rfl (.tmp 26) (.tmp 30) rfl rfl rfl (by with_reducible exact sC) ?_) | fail)
  all_goals dsimp only [Exit.then]
  all_goals go_at_K
  all_goals go_wp2_with fail
  · refine bodyPost_ret (v := .tuple #[uA, .bool true]) (by simp [results, Try.results19, go_sem]) rfl ⟨uA, rfl, ?_, FA.out.2⟩
    have h := FA.out.1
    rw [HPP.out] at h
    exact h.mono fun g hg => by have := HSZ.out; omega
  · refine bodyPost_ret (v := .tuple #[uB, .bool true]) (by simp [results, Try.results19, go_sem]) rfl ⟨uB, rfl, ?_, FB.out.2⟩
    have h := FB.out.1
    rw [HPP.out] at h
    exact h.mono fun g hg => by have := HSZ.out; omega
  · refine bodyPost_ret (v := .tuple #[uC, .bool true]) (by simp [results, Try.results19, go_sem]) rfl ⟨uC, rfl, ?_, FC.out.2⟩
    have h := FC.out.1
    rw [HPP.out] at h
    exact h.mono fun g hg => by have := HSZ.out; omega
end Go.Proofs.Ytelnembjcgkiaaa
