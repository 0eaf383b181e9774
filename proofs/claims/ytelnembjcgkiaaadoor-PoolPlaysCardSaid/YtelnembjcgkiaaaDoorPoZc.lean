/- The document's pool: Drop and Set of a live handle. -/
import Derived.Test.YtelnembjcgkiaaaDoorPoZb
namespace Go.Proofs.YtelnembjcgkiaaaDoor
open Go.RowKit
set_option linter.unusedVariables false
set_option linter.unusedSimpArgs false

theorem info_at : (Tryd.prog.info? 58 ).map (·.size) = some 5 := by kernel_rfl
theorem info_e : (Tryd.prog.info? 53 ).map (·.size) = some 3 := by kernel_rfl
theorem lenL {L : List Pt} (h : L.length ≤ 4096) : 0 + L.length ≤ 1000000000 := by omega
theorem u64_succ {g : Int} (g0 : 0 ≤ g) (g1 : g ≤ 1000000000) : IntKind.u64.wrap (g + 1) = g + 1 := by rw [IntKind.wrap_u64]; omega
theorem take5 {L : List Pt} {Z : List Value} {t : Nat} (ht : t < L.length) : t * 5 + 5 ≤ (fl5 L ++ Z).length := by rw [List.length_append, fl5_len]; omega
theorem row_get {W : World} {q : Nat} {L : List Pt} {Z : List Value} {t : Nat} (h : RowAt W q (fl5 L ++ Z).toArray 58) (ht : t < L.length) {p : Pt} (hp : L[t] = p) {c : Nat} {v : Value} (hv : (f5 p)[c]? = some v) : W.cell? ⟨q, t * 5 + c, none⟩ = some v := by
  refine h.cell ?_
  have hg := fl5_get ht hp hv
  rw [List.getElem?_toArray, List.getElem?_append_left (List.getElem?_eq_some_iff.1 hg).1]
  exact hg
theorem f5_one5 (p : Pt) : ∀ v ∈ f5 p, v.oneCell' = true := by
  intro v hp
  simp only [f5, List.mem_cons, List.not_mem_nil, or_false] at hp
  rcases hp with rfl | rfl | rfl | rfl | rfl <;> rfl
theorem one3c (a b c : Int) : ∀ v ∈ [Value.int .u64 a, .int .u64 b, .int .u64 c], v.oneCell' = true := by
  intro v hp
  simp only [List.mem_cons, List.not_mem_nil, or_false] at hp
  rcases hp with rfl | rfl | rfl <;> rfl
/-- The row behind the store, as a slice. -/
theorem row_fin {w W : World} {q cap n : Nat} {L L' : List Pt} {Z cs : List Value} (hr : RowAt W q (fl5 L ++ Z).toArray 58) (hc : cs = fl5 L' ++ Z) (hl : L.length = n) (hl' : L'.length = L.length) (hq : L.length ≤ cap ∧ cap ≤ maxLen) (h0 : w.heap.size ≤ q) (hb : Below w.heap.size w W) :
    Sl (W.setRow q cs.toArray) (.slice (some ⟨q, 0, none⟩) n cap) L'.length (fl5 L') (fun g => w.heap.size ≤ g) ∧ Below w.heap.size w (W.setRow q cs.toArray) := by
  subst hc
  exact ⟨row_sl (Z := Z) (hr.setRow _) (by omega) hq.2 (by omega) h0, But.below hb ((But.refl q W).setRow _) h0 hb.size⟩
set_option maxHeartbeats 8000000 in
set_option maxRecDepth 100000 in
theorem rdrop_yes (L : List Pt) (v : Value) (ok : Nat → Prop) (w : World) (hv : Sl w v L.length (fl5 L) ok) (hL : L.length ≤ 4096) (h : Int) (t : Nat) (ht : t < L.length) (P : Pt) (hg : L[t] = P) (g0 : 0 ≤ P.1) (g1 : P.1 ≤ 1000000000) (hf : Calls Tryd.prog 19 #[v, .int .u64 h] w fun e w' => e = .returned (.int .i64 t) ∧ Below w.heap.size w w') :
    Calls Tryd.prog 21 #[v, .int .u64 h] w fun e w' => ∃ u, e = .returned u ∧ Sl w' u (L.set t (dropPt P)).length (fl5 (L.set t (dropPt P))) (fun g => w.heap.size ≤ g) ∧ Below w.heap.size w w' := by
  have HF := Lib.hid hf
  have HV := Lib.hid hv
  have HL0 := Lib.hid (lenL hL)
  have HT := Lib.hid ht
  have HG := Lib.hid hg
  obtain ⟨g, tk, x⟩ := P
  have wg : IntKind.u64.wrap (g + 1) = g + 1 := u64_succ g0 g1
  obtain ⟨a, c, rfl, -⟩ := hv
  clear hf hL hg g0 g1
  go_enter Tryd.func21, Tryd.ntmps21
  go_upto_region 2 with (go_at_call 19; refine HF.out.mono ?_; rintro e w1 ⟨rfl, hb1⟩)
  have HV1 := Lib.hid (HV.out.ext hb1)
  have d0 : decide ((t : Int) < 0) = false := dec_f (by omega)
  clear HF
  go_upto_region 5 with (at_builtin; refine wpList_append_l rfl (.tmp 13) (.tmp 14) 46 rfl w1.heap.size 58 5 40 Tryd.underlying46 (by kernel_rfl) (by decide) (by decide) _ 0 [] rfl (own_empty5 w1 58 5 (Nat.le_refl _)) _ L.length (fl5 L) rfl (slice_eq5 (HV1.out.ext (below_new (Below.refl _ _) _))) (fl5_len L) (fl5_one L) HL0.out (below_new (Below.refl w1.heap.size w1) _).size ?_; intro v' w2 hown' ho' _; have HO2 := Lib.hid hown'; have HB2 := Lib.hid (Only.below (below_new (Below.refl w1.heap.size w1) _) ho' (fun k hk => by have hk' : some k = some w1.heap.size := hk; injection hk' with hk'; omega) (below_new (Below.refl w1.heap.size w1) _).size); clear hown' ho')
  have HO3 := HO2.out
  rw [Nat.zero_add, List.nil_append] at HO3
  obtain ⟨q, cap, Z, rfl, hq, hn, hm, hrow⟩ := own_row5 HO3 (by omega)
  have HBB := Lib.hid (below_then hb1 HB2.out)
  have HQN := Lib.hid (And.intro hn hm)
  have HR := Lib.hid hrow
  have HQ0 := Lib.hid (show w.heap.size ≤ q from Nat.le_trans hb1.size hq)
  have hti : (t : Int) < (L.length : Int) := by omega
  have ht0 : (0 : Int) ≤ (t : Int) := by omega
  have HLE := Lib.hid (take5 (Z := Z) ht)
  obtain ⟨len, hlen⟩ : ∃ n : Nat, L.length = n := ⟨_, rfl⟩
  have HLN := Lib.hid hlen
  have c0 : w2.cell? ⟨q, t * 5, none⟩ = some (.int .u64 g) := row_get hrow ht HG.out (c := 0) rfl
  obtain ⟨C, hC⟩ : ∃ C, fl5 (L.set t (dropPt (g, tk, x))) ++ Z = C := ⟨_, rfl⟩
  have hsp := fl5_splice ht (dropPt (g, tk, x)) 0 (f5 (dropPt (g, tk, x))) Z (by simp [f5]) (by rw [HG.out]; rfl)
  rw [hC, Nat.add_zero] at hsp
  have HSP := Lib.hid hsp
  have HC := Lib.hid hC.symm
  clear hsp hC
  have HLS := Lib.hid (show (L.set t (dropPt (g, tk, x))).length = L.length by rw [List.length_set])
  rw [hlen] at hti
  try rw [hlen]
  clear hrow HO3 HO2 HB2 HV1 hlen hn hm hq hb1
  go_upto_region 6 with (refine wpList_store_part rfl 58 (.tmp 25) (.tmp 24) rfl q (t * 5) (f5 (dropPt (g, tk, x))) rfl rfl 58 (fl5 L ++ Z) HR.out info_at HLE.out (f5_one5 _) ?_; rw [HSP.out])
  go_wp2_with fail
  go_ret
  exact ⟨_, rfl, row_fin HR.out HC.out HLN.out HLS.out HQN.out HQ0.out HBB.out⟩
set_option maxHeartbeats 8000000 in
set_option maxRecDepth 100000 in
theorem rset_no (v : Value) (h : Int) (w : World) (e1 e2 e3 : Int) (hf : ∀ X, Below w.heap.size w X → Calls Tryd.prog 19 #[v, .int .u64 h] X fun e w' => e = .returned (.int .i64 (-1)) ∧ Below X.heap.size X w') :
    Calls Tryd.prog 22 #[v, .int .u64 h, .agg #[.int .u64 e1, .int .u64 e2, .int .u64 e3]] w fun e w' => e = .returned (v) ∧ Below w.heap.size w w' := by
  have HF := Lib.hid hf
  clear hf
  go_enter Tryd.func22, Tryd.ntmps22
  go_wp2_with (go_at_call 19; refine (HF.out _ (below_new (Below.refl _ _) _)).mono ?_; rintro e w1 ⟨rfl, hb1⟩)
  go_ret
  exact ⟨rfl, below_then (below_new (Below.refl _ _) _) hb1⟩
set_option maxHeartbeats 8000000 in
set_option maxRecDepth 100000 in
theorem rset_yes (L : List Pt) (v : Value) (ok : Nat → Prop) (w : World) (hv : Sl w v L.length (fl5 L) ok) (hL : L.length ≤ 4096) (h : Int) (t : Nat) (ht : t < L.length) (P : Pt) (hg : L[t] = P) (e1 e2 e3 : Int) (hf : ∀ X, Below w.heap.size w X → Calls Tryd.prog 19 #[v, .int .u64 h] X fun e w' => e = .returned (.int .i64 t) ∧ Below X.heap.size X w') :
    Calls Tryd.prog 22 #[v, .int .u64 h, .agg #[.int .u64 e1, .int .u64 e2, .int .u64 e3]] w fun e w' => ∃ u, e = .returned u ∧ Sl w' u (L.set t (setPt P (e1, e2, e3))).length (fl5 (L.set t (setPt P (e1, e2, e3)))) (fun g => w.heap.size ≤ g) ∧ Below w.heap.size w w' := by
  have HF := Lib.hid hf
  have HV := Lib.hid hv
  have HL0 := Lib.hid (lenL hL)
  have HT := Lib.hid ht
  have HG := Lib.hid hg
  obtain ⟨g, tk, x⟩ := P
  obtain ⟨a, c, rfl, -⟩ := hv
  clear hf hL hg
  obtain ⟨W, hW⟩ : ∃ W, w.alloc (.cells #[.int .u64 e1, .int .u64 e2, .int .u64 e3] 53 ) = W := ⟨_, rfl⟩
  have hbW : Below w.heap.size w W := hW ▸ below_new (Below.refl _ _) _
  have hXW : RowAt W w.heap.size #[.int .u64 e1, .int .u64 e2, .int .u64 e3] 53 := hW ▸ RowAt.new w _ _
  have HX := Lib.hid hXW
  have HBW := Lib.hid hbW
  clear hbW hXW
  go_enter Tryd.func22, Tryd.ntmps22
  go_upto_region 2 with (go_at_call 19; refine (HF.out _ HBW.out).mono ?_; rintro e w1 ⟨rfl, hb1⟩)
  clear hW
  have HV1 := Lib.hid ((HV.out.ext HBW.out).ext hb1)
  have d0 : decide ((t : Int) < 0) = false := dec_f (by omega)
  clear HF
  go_upto_region 5 with (at_builtin; refine wpList_append_l rfl (.tmp 15) (.tmp 16) 46 rfl w1.heap.size 58 5 40 Tryd.underlying46 (by kernel_rfl) (by decide) (by decide) _ 0 [] rfl (own_empty5 w1 58 5 (Nat.le_refl _)) _ L.length (fl5 L) rfl (slice_eq5 (HV1.out.ext (below_new (Below.refl _ _) _))) (fl5_len L) (fl5_one L) HL0.out (below_new (Below.refl w1.heap.size w1) _).size ?_; intro v' w2 hown' ho' _; have HO2 := Lib.hid hown'; have HB2 := Lib.hid (Only.below (below_new (Below.refl w1.heap.size w1) _) ho' (fun k hk => by have hk' : some k = some w1.heap.size := hk; injection hk' with hk'; omega) (below_new (Below.refl w1.heap.size w1) _).size); clear hown' ho')
  have HO3 := HO2.out
  rw [Nat.zero_add, List.nil_append] at HO3
  obtain ⟨q, cap, Z, rfl, hq, hn, hm, hrow⟩ := own_row5 HO3 (by omega)
  have HBB := Lib.hid (below_then (below_then HBW.out hb1) HB2.out)
  have HQN := Lib.hid (And.intro hn hm)
  have HR := Lib.hid hrow
  have HQ0 := Lib.hid (show w.heap.size ≤ q from Nat.le_trans (below_then HBW.out hb1).size hq)
  have hti : (t : Int) < (L.length : Int) := by omega
  have ht0 : (0 : Int) ≤ (t : Int) := by omega
  have HLE := Lib.hid (take5 (Z := Z) ht)
  obtain ⟨len, hlen⟩ : ∃ n : Nat, L.length = n := ⟨_, rfl⟩
  have HLN := Lib.hid hlen
  have hX2 := RowAt.ext (RowAt.ext HX.out hb1) HB2.out
  have c0 : w2.cell? ⟨w.heap.size, 0, none⟩ = some (.int .u64 e1) := hX2.cell (i := 0) rfl
  have c1 : w2.cell? ⟨w.heap.size, 1, none⟩ = some (.int .u64 e2) := hX2.cell (i := 1) rfl
  have c2 : w2.cell? ⟨w.heap.size, 2, none⟩ = some (.int .u64 e3) := hX2.cell (i := 2) rfl
  obtain ⟨C, hC⟩ : ∃ C, fl5 (L.set t (setPt (g, tk, x) (e1, e2, e3))) ++ Z = C := ⟨_, rfl⟩
  have hsp := fl5_splice ht (setPt (g, tk, x) (e1, e2, e3)) 2 [.int .u64 e1, .int .u64 e2, .int .u64 e3] Z (by simp) (by rw [HG.out]; rfl)
  rw [hC] at hsp
  have HSP := Lib.hid hsp
  have HC := Lib.hid hC.symm
  clear hsp hC
  have HLS := Lib.hid (show (L.set t (setPt (g, tk, x) (e1, e2, e3))).length = L.length by rw [List.length_set])
  rw [hlen] at hti
  try rw [hlen]
  clear hrow HO3 HO2 HB2 HV1 hlen hn hm hq hb1 hX2 HX
  go_upto_region 6 with (refine wpList_store_part rfl 53 (.tmp 22) (.tmp 20) rfl q (t * 5 + 2) [.int .u64 e1, .int .u64 e2, .int .u64 e3] rfl rfl 58 (fl5 L ++ Z) HR.out info_e (Nat.le_trans (by simp) HLE.out) (one3c _ _ _) ?_; rw [HSP.out])
  go_wp2_with fail
  go_ret
  exact ⟨_, rfl, row_fin HR.out HC.out HLN.out HLS.out HQN.out HQ0.out HBB.out⟩
end Go.Proofs.YtelnembjcgkiaaaDoor
