/- Taken, and pushed again: ChainTakes. -/
import Derived.Test.YtelnembjcgkiaaaChV
import Derived.Test.YtelnembjcgkiaaaAppS
namespace Go.Proofs.Ytelnembjcgkiaaa
open Go.RowKit
set_option linter.unusedVariables false
set_option linter.unusedSimpArgs false
set_option linter.unusedSectionVars false
theorem Lst.only {kd : IntKind} {w w' : World} {v : Value} {L : List Int} {ok S : Nat → Prop} (h : Lst kd w v L ok) (ho : Only S w w') (hs : ∀ g, ok g → ¬ S g) : Lst kd w' v L ok := by
  obtain ⟨a, cap, h1, h2, h3, h4⟩ := h
  exact ⟨a, cap, h1, h2, h3, fun h0 => by
    obtain ⟨p, q1, q2, q3, q4⟩ := h4 h0
    exact ⟨p, q1, Nat.lt_of_lt_of_le q2 ho.size, q3, fun k hk => cell_only (q4 k hk) ho (by rw [addr_add_block]; exact hs _ q3)⟩⟩
theorem Lst.len {kd : IntKind} {w : World} {v : Value} {L : List Int} {ok : Nat → Prop} (h : Lst kd w v L ok) {n : Nat} (hn : L.length = n) : ∃ a cap, v = .slice a n cap ∧ Lst kd w (.slice a n cap) L ok := by
  subst hn
  obtain ⟨a, cap, rfl, h2⟩ := h
  exact ⟨a, cap, rfl, a, cap, rfl, h2⟩
theorem pair_of_fits {W : World} {cs : Array Value} (h : Fits W [.int .i64, .int .i64] cs.toList) : ∃ x y : Int, cs = #[.int .i64 x, .int .i64 y] := by
  have hl := h.length
  match cs, hl, h with
  | ⟨[u, v]⟩, _, h =>
    simp only [Fits, Fit1, and_true] at h
    obtain ⟨⟨x, rfl, _⟩, ⟨y, rfl, _⟩⟩ := h
    exact ⟨x, y, rfl⟩
/-- Ints of a list of things. -/
def zs (F : List Nat) : List Int := F.map fun x : Nat => (x : Int)
section
variable {κ : Type} [DecidableEq κ]
theorem ofK_app (A B : List (κ × Nat)) (k : κ) : ofK (A ++ B) k = ofK A k ++ ofK B k := by unfold ofK; rw [List.filter_append, List.map_append]
theorem ofK_all (k : κ) (F : List Nat) : ofK (F.map fun x => (k, x)) k = F := by
  induction F with
  | nil => rfl
  | cons x r ih =>
    unfold ofK at ih ⊢
    simp only [List.map_cons, List.filter_cons, decide_true, if_true, List.map_cons]
    rw [ih]
theorem ofK_dropAll_far (k : κ) : ∀ (pre : List Nat) (L : List (κ × Nat)), (∀ y ∈ pre, y ∉ ofK L k) → ofK (dropAll L pre) k = ofK L k
  | [], L, _ => rfl
  | y :: pre, L, h => by
    have h1 : ofK (dropT L y) k = ofK L k := by
      unfold dropT
      rw [ofK_drop]
      exact filter_out (h y (by simp))
    show ofK (dropAll (dropT L y) pre) k = _
    rw [ofK_dropAll_far k pre (dropT L y) (fun z hz => by rw [h1]; exact h z (List.mem_cons_of_mem _ hz)), h1]
theorem mem_dropT {L : List (κ × Nat)} {y : Nat} {p : κ × Nat} : p ∈ dropT L y ↔ p ∈ L ∧ p.2 ≠ y := by
  unfold dropT
  simp [List.mem_filter]
theorem mem_dropAll : ∀ (pre : List Nat) (L : List (κ × Nat)) (p : κ × Nat), p ∈ dropAll L pre ↔ p ∈ L ∧ p.2 ∉ pre
  | [], L, p => by simp [dropAll]
  | y :: pre, L, p => by
    show p ∈ dropAll (dropT L y) pre ↔ _
    rw [mem_dropAll pre (dropT L y) p, mem_dropT]
    simp only [List.mem_cons, not_or, ne_eq, and_assoc]
theorem len_dropT {L : List (κ × Nat)} (hn : (L.map (·.2)).Nodup) {y : Nat} (hy : y ∈ L.map (·.2)) : (dropT L y).length + 1 = L.length := by
  induction L with
  | nil => simp at hy
  | cons p L ih =>
    rw [List.map_cons, List.nodup_cons] at hn
    by_cases h : p.2 = y
    · have h1 : dropT (p :: L) y = L := by
        unfold dropT
        rw [List.filter_cons, if_neg (by simp [h])]
        refine List.filter_eq_self.2 fun q hq => ?_
        simp only [decide_eq_true_eq]
        intro e
        exact hn.1 (List.mem_map.2 ⟨q, hq, by rw [e, h]⟩)
      rw [h1]; rfl
    · have h1 : dropT (p :: L) y = p :: dropT L y := by
        unfold dropT
        rw [List.filter_cons, if_pos (by simp [h])]
      have hy' : y ∈ L.map (·.2) := by
        rcases List.mem_cons.1 hy with e | e
        · exact absurd e.symm h
        · exact e
      rw [h1]
      simp only [List.length_cons]
      rw [ih hn.2 hy']
theorem len_dropAll : ∀ (pre : List Nat) (L : List (κ × Nat)), (L.map (·.2)).Nodup → pre.Nodup → (∀ y ∈ pre, y ∈ L.map (·.2)) → (dropAll L pre).length + pre.length = L.length
  | [], L, _, _, _ => rfl
  | y :: pre, L, hn, hp, h => by
    rw [List.nodup_cons] at hp
    have h1 := len_dropT hn (h y (by simp))
    have h2 := len_dropAll pre (dropT L y) (hn.sublist (List.Sublist.map _ List.filter_sublist)) hp.2 (fun z hz => by
      obtain ⟨p, hp2, rfl⟩ := List.mem_map.1 (h z (List.mem_cons_of_mem _ hz))
      exact List.mem_map.2 ⟨p, mem_dropT.2 ⟨hp2, fun e => hp.1 (e ▸ hz)⟩, rfl⟩)
    show (dropAll (dropT L y) pre).length + _ = _
    simp only [List.length_cons]
    omega
end
theorem okP_out {n : Nat} {L : List ((Int × Int) × Nat)} {lk : Nat → Lk (Int × Int)} {hd : Int × Int → Option (Int × Int × Int)} (h : Rep (0, 0) n L lk hd) {x : Nat} (hx : x < n) (ho : ∀ p ∈ L, p.2 ≠ x) : okP n lk (x : Int) = true := by
  unfold okP
  have h1 : inB n lk (x : Int) = false := by rw [inB_nat hx, h.out x ho]
  rw [h1]
  simp
  omega
theorem same_t {L M : List Int} (h : L = M) : decide (L = M) = true := decide_eq_true h
theorem step_lt {n t : Nat} (h : t < n) : n - ((t : Int) + 1).toNat < n - ((t : Int)).toNat := by omega
theorem wrapD {a b d : Nat} (h1 : d + b = a) (h2 : a ≤ 4096) : wrap64 ((a : Int) - (b : Int)) = (d : Int) := by unfold wrap64; omega
/-- All that is known of the things taken. -/
structure Tkn (R : Nat) (L : List ((Int × Int) × Nat)) (a b : Int × Int) (F G : List Nat) : Prop where
  fa : ofK L a = F
  gb : ofK L b = G
  fn : F.Nodup
  fl : F.length ≤ R
  gl : G.length ≤ R
  ll : L.length ≤ R
  lt : ∀ x ∈ F, x < R
  len : (dropAll L F).length + F.length = L.length
  da : ofK (dropAll L F) a = []
  db : a ≠ b → ofK (dropAll L F) b = G
  out : ∀ x ∈ F, ∀ p ∈ dropAll L F, p.2 ≠ x
theorem Tkn.of {R : Nat} {L : List ((Int × Int) × Nat)} {lk : Nat → Lk (Int × Int)} {hd : Int × Int → Option (Int × Int × Int)} (h : Rep (0, 0) R L lk hd) (a b : Int × Int) : Tkn R L a b (ofK L a) (ofK L b) := by
  have hn := ofK_nodup h.nd a
  refine ⟨rfl, rfl, hn, len_le h a, len_le h b, L_le h, fun x hx => h.lt _ (mem_ofK.1 hx), len_dropAll _ _ h.nd hn (fun y hy => List.mem_map.2 ⟨_, mem_ofK.1 hy, rfl⟩), ofK_dropAll a _ L [] hn (by simp), fun hab => ofK_dropAll_far b _ _ fun y hy hyb => hab (key_once h.nd (mem_ofK.1 hy) (mem_ofK.1 hyb)), fun x hx p hp e => ((mem_dropAll _ _ _).1 hp).2 (e ▸ hx)⟩
def lp (L : List ((Int × Int) × Nat)) (b : Int × Int) (F : List Nat) (t : Nat) : List ((Int × Int) × Nat) := dropAll L F ++ (F.take t).map fun x => (b, x)
theorem lp_succ {L : List ((Int × Int) × Nat)} {b : Int × Int} {F : List Nat} {t : Nat} (ht : t < F.length) : lp L b F t ++ [(b, F[t])] = lp L b F (t + 1) := by
  unfold lp
  rw [List.take_succ_eq_append_getElem ht, List.map_append, List.append_assoc]
  rfl
theorem Tkn.out_lp {R : Nat} {L : List ((Int × Int) × Nat)} {a b : Int × Int} {F G : List Nat} (h : Tkn R L a b F G) {t : Nat} (ht : t < F.length) : ∀ p ∈ lp L b F t, p.2 ≠ F[t] := by
  intro p hp
  rcases List.mem_append.1 hp with hp | hp
  · exact h.out _ (List.getElem_mem ht) p hp
  · obtain ⟨x, hx, rfl⟩ := List.mem_map.1 hp
    obtain ⟨i, hi, rfl⟩ := List.mem_iff_getElem.1 hx
    rw [List.getElem_take]
    intro e
    rw [List.length_take] at hi
    have := (List.getElem_inj h.fn).1 e
    omega
theorem Tkn.end_b {R : Nat} {L : List ((Int × Int) × Nat)} {a b : Int × Int} {F G : List Nat} (h : Tkn R L a b F G) (hab : a ≠ b) : ofK (lp L b F F.length) b = G ++ F := by
  unfold lp
  rw [ofK_app, h.db hab, List.take_length, ofK_all]
theorem Tkn.end_len {R : Nat} {L : List ((Int × Int) × Nat)} {a b : Int × Int} {F G : List Nat} (h : Tkn R L a b F G) : (lp L b F F.length).length = L.length := by
  unfold lp
  rw [List.length_append, List.length_map, List.take_length]
  exact h.len
theorem own_empty (w : World) (e : TypeId) {base : Nat} (hb : base ≤ w.heap.size) : (w.alloc (.cells #[] e)).ownsRow base e 1 (.slice (some ⟨w.heap.size, 0, none⟩) 0 0) 0 [] :=
  ⟨rfl, .inr ⟨w.heap.size, 0, #[], rfl, hb, heap_alloc_new w _, Nat.le_refl _, by unfold maxLen; omega, rfl, rfl⟩⟩
theorem zs_len (F : List Nat) : (zs F).length = F.length := by unfold zs; simp
theorem zs_app (F G : List Nat) : zs (F ++ G) = zs F ++ zs G := by unfold zs; simp
set_option maxHeartbeats 32000000 in
set_option maxRecDepth 100000 in
theorem ChainTakes_walk (rm : Int) (a : Option Addr) (len cap : Nat) (ca cb : Array Value) (W : World) (_ : -9223372036854775808 ≤ rm) (_ : rm ≤ 9223372036854775807) (hf : Fit1 W (.slice actSh) (.slice a len cap)) (fa : Fits W [.int .i64, .int .i64] ca.toList) (fb : Fits W [.int .i64, .int .i64] cb.toList) :
    Calls Try.prog 4 #[.int .i64 rm, .slice a len cap, .agg ca, .agg cb] W fun e w' => e = .returned (.bool true) ∧ Below W.heap.size W w' := by
  have HFIT := Lib.hid (fun i (hi : i < len) => act_at hf hi)
  obtain ⟨a1, a2, rfl⟩ := pair_of_fits fa
  obtain ⟨b1, b2, rfl⟩ := pair_of_fits fb
  clear hf fa fb
  obtain ⟨u, hu, u0, u1⟩ : ∃ u, IntKind.u64.wrap rm = u ∧ 0 ≤ u ∧ u ≤ 18446744073709551615 := ⟨_, rfl, by rw [IntKind.wrap_u64]; omega, by rw [IntKind.wrap_u64]; omega⟩
  obtain ⟨Q, hQ, q0, q1⟩ : ∃ Q, u % 40 = Q ∧ 0 ≤ Q ∧ Q < 40 := ⟨_, rfl, by omega, by omega⟩
  obtain ⟨R, hR, R1, R2⟩ : ∃ R : Nat, 1 + Q = (R : Int) ∧ 1 ≤ R ∧ R ≤ 40 := ⟨(1 + Q).toNat, by omega, by omega, by omega⟩
  have hR4 : R ≤ 4096 := Nat.le_trans R2 (by decide)
  go_enter Try.func4, Try.ntmps4
  go_upto_region 1 with fail
  have hXA := (RowAt.new W #[.int .i64 a1, .int .i64 a2] 28 ).alloc (.cells #[.int .i64 b1, .int .i64 b2] 28 )
  have hXB := RowAt.new (W.alloc (.cells #[.int .i64 a1, .int .i64 a2] 28 )) #[.int .i64 b1, .int .i64 b2] 28
  rw [World.size_alloc] at hXB
  refine wp_name (Pr := fun V => RowAt V W.heap.size #[.int .i64 a1, .int .i64 a2] 28 ∧ RowAt V (W.heap.size + 1) #[.int .i64 b1, .int .i64 b2] 28 ∧ Below W.heap.size W V) ⟨hXA, hXB, below_new (below_new (Below.refl _ _) _) _⟩ ?_
  clear hXA hXB
  rintro V ⟨hXA, hXB, hB⟩
  have hsV : W.heap.size + 1 < V.heap.size := hXB.lt
  have HXA0 := Lib.hid hXA
  have HXB0 := Lib.hid hXB
  have HB00 := Lib.hid hB
  have HSV := Lib.hid hsV
  clear hXA hXB hB hsV
  go_upto_region 3 with (go_at_call 7; refine (new_any R _ R1 (by omega)).mono ?_; rintro e w1 ⟨b, bm, bl, rfl, hg, hA, hB⟩)
  clear hu u0 u1 hQ q0 q1 hR
  have HG := Lib.hid (show W.heap.size + 1 < bm ∧ W.heap.size + 1 < bl by have := HSV.out; omega)
  have HA0 := Lib.hid hA
  have HXA1 := Lib.hid (RowAt.ext HXA0.out hB)
  have HXB1 := Lib.hid (RowAt.ext HXB0.out hB)
  have HB0 := Lib.hid (below_then HB00.out hB)
  clear hg hA hB HXA0 HXB0 HB00 HSV
  go_upto_region 6 with fail
  go_loopw [11] (fun i wr => ∃ (j : Nat) (L : List ((Int × Int) × Nat)) (lk : Nat → Lk (Int × Int)), j ≤ 80 ∧ i = .int .i64 j ∧ ChAt wr b bm bl R L lk ∧ RowAt wr W.heap.size #[.int .i64 a1, .int .i64 a2] 28 ∧ RowAt wr (W.heap.size + 1) #[.int .i64 b1, .int .i64 b2] 28 ∧ Below W.heap.size W wr) (fun i _ => 80 - (intOf i).toNat)
  case atStart => exact ⟨0, _, _, by omega, rfl, HA0.out, HXA1.out, HXB1.out, HB0.out⟩
  case round =>
    clear HA0 HB0 HXA1 HXB1
    obtain ⟨j, L, lk, hj, rfl, hA, hXA, hXB, hB⟩ := hrel
    by_cases hlt : j < len ∧ j < 80
    · obtain ⟨hl1, hl2⟩ := hlt
      obtain ⟨ba, oa, k, n, k1, k2, rfl, hba, n0, n1, q0, q1, q2, q3⟩ := HFIT.out j hl1
      have qa1 : ∀ x : Ext wr.heap.size wr, x.world.cell? ⟨ba, oa + j * 4 + 1, none⟩ = some (.int .i64 n) := fun x => ((below_then hB x.ok).cell (p := ⟨ba, oa + j * 4 + 1, none⟩) hba).trans q1
      have qa2 : ∀ x : Ext wr.heap.size wr, x.world.cell? ⟨ba, oa + j * 4 + 2, none⟩ = some (.int .i64 k1) := fun x => ((below_then hB x.ok).cell (p := ⟨ba, oa + j * 4 + 2, none⟩) hba).trans q2
      have qa3 : ∀ x : Ext wr.heap.size wr, x.world.cell? ⟨ba, oa + j * 4 + 2 + 1, none⟩ = some (.int .i64 k2) := fun x => ((below_then hB x.ok).cell (p := ⟨ba, oa + j * 4 + 3, none⟩) hba).trans q3
      have HA := Lib.hid hA
      have HXA := Lib.hid hXA
      have HXB := Lib.hid hXB
      have HB := Lib.hid hB
      clear hA hXA hXB hB
      clear q0 q1 q2 q3
      have g1 : decide ((j : Int) < (len : Int)) = true := dec_t (by omega)
      have g1' : decide (j < len) = true := dec_t hl1
      have g80 : decide ((j : Int) < 80) = true := by simp; omega
      have hj0 : (j : Int) < (len : Int) := by omega
      go_upto_region 8 with fail
      refine wp_start (w := wr) ?_
      intro x0
      refine wp_region_ext_tail _ 11 (by kernel_rfl) (by kernel_rfl) (by kernel_rfl) ?_
      simp only [List.take_succ_cons, List.take_zero, List.drop_succ_cons, List.drop_zero]
      repeat (go_big_quiet_step (fail))
      refine wpQuiet_nil ?_
      rintro _ ⟨y, rfl⟩
      clear qa1 qa2 qa3
      have HAY := Lib.hid (ChAt.ext HA.out y.ok)
      have HXAY := Lib.hid (RowAt.ext HXA.out y.ok)
      have HXBY := Lib.hid (RowAt.ext HXB.out y.ok)
      have HBY := Lib.hid (below_then HB.out y.ok)
      go_wp2_with (go_at_call 8; refine (push_all b bm bl R L lk _ HAY.out hR4 k1 k2 n).mono ?_; rintro e w2 ⟨rfl, ⟨lk2, hA2⟩, hO2⟩)
      go_roundw
      case measure => simp [intOf]; omega
      case rel =>
        have hg := HG.out
        refine ⟨j + 1, _, lk2, by omega, by simp, hA2, RowAt.only HXAY.out hO2 (by rintro (q | q) <;> omega), RowAt.only HXBY.out hO2 (by rintro (q | q) <;> omega), only_new HBY.out hO2 (by omega) (by omega)⟩
    · have HT : Hid (Tkn R L (a1, a2) (b1, b2) (ofK L (a1, a2)) (ofK L (b1, b2))) := Lib.hid (by obtain ⟨M, c, cp, q⟩ := hA; exact Tkn.of q.rep _ _)
      have HA := Lib.hid hA
      have HXA := Lib.hid hXA
      have HXB := Lib.hid hXB
      have HB := Lib.hid hB
      clear hA hXA hXB hB
      obtain ⟨Fa, hFa⟩ : ∃ F, ofK L (a1, a2) = F := ⟨_, rfl⟩
      obtain ⟨Fb, hFb⟩ : ∃ F, ofK L (b1, b2) = F := ⟨_, rfl⟩
      rw [hFa, hFb] at HT
      clear hFa hFb
      have dl : (decide (j < len) = false ∧ decide ((j : Int) < (len : Int)) = false) ∨ (decide ((j : Int) < 80) = false ∧ decide (j < len) = true ∧ decide ((j : Int) < (len : Int)) = true) := by
        by_cases h1 : j < len
        · exact .inr ⟨dec_f (by have : ¬ j < 80 := fun h => hlt ⟨h1, h⟩; omega), dec_t h1, dec_t (by omega)⟩
        · exact .inl ⟨dec_f h1, dec_f (by omega)⟩
      clear hlt
      rcases dl with ⟨dl1, dl2⟩ | ⟨dl1, dl2, dl3⟩
      · go_upto_region 9 with fail
        clear dl1 dl2
        have hL4 : L.length ≤ 4096 := Nat.le_trans HT.out.ll hR4
        go_upto_region 10 with (go_at_call 14; refine (total_any b bm bl R L lk _ HA.out hL4).mono ?_; rintro e w2 ⟨rfl, hb2⟩)
        have HA2 := Lib.hid (ChAt.ext HA.out hb2)
        have HXA2 := Lib.hid (RowAt.ext HXA.out hb2)
        have HXB2 := Lib.hid (RowAt.ext HXB.out hb2)
        have HB2 := Lib.hid (below_then HB.out hb2)
        clear HA HXA HXB HB hb2
        have y0 := RowAt.cell HXB2.out (i := 0) rfl
        have y1 := RowAt.cell HXB2.out (i := 1) rfl
        go_upto_region 11 with (go_at_call 16; refine (all_any R hR4 b bm bl b1 b2 L lk _ HA2.out).mono ?_; rintro e w3 ⟨v3, rfl, hV3, hb3⟩)
        rw [HT.out.gb] at hV3
        obtain ⟨p3, c3, rfl, hV3⟩ := hV3.len (n := Fb.length) (by simp)
        have HLO := Lib.hid (show bm < w2.heap.size ∧ bl < w2.heap.size by obtain ⟨M, c, cp, q⟩ := HA2.out; exact ⟨q.m.lt, q.lks.lt⟩)
        have HA3 := Lib.hid (ChAt.ext HA2.out hb3)
        have HXA3 := Lib.hid (RowAt.ext HXA2.out hb3)
        have HXB3 := Lib.hid (RowAt.ext HXB2.out hb3)
        have HB3 := Lib.hid (below_then HB2.out hb3)
        have HV3 := Lib.hid hV3
        have HS3 := Lib.hid hb3.size
        clear HA2 HXA2 HXB2 HB2 hb3 y0 y1 hV3
        have x0 := RowAt.cell HXA3.out (i := 0) rfl
        have x1 := RowAt.cell HXA3.out (i := 1) rfl
        go_upto_region 12 with (go_at_call 17; refine (take_any R hR4 b bm bl a1 a2 L lk _ HA3.out).mono ?_; rintro e w4 ⟨v4, rfl, hV4, ⟨lk4, hA4⟩, hO4⟩)
        rw [HT.out.fa] at hV4 hA4
        obtain ⟨p4, c4, rfl, hV4⟩ := hV4.len (n := Fa.length) (by simp)
        have hns : ∀ g, w2.heap.size ≤ g → ¬ S2 bm bl g := by
          have := HLO.out
          rintro g hg (q | q) <;> omega
        have HXA4 := Lib.hid (RowAt.only HXA3.out hO4 (by have := HG.out; rintro (q | q) <;> omega))
        have HXB4 := Lib.hid (RowAt.only HXB3.out hO4 (by have := HG.out; rintro (q | q) <;> omega))
        have HB4 := Lib.hid (only_new HB3.out hO4 (by have := HG.out; omega) (by have := HG.out; omega))
        have HV34 := Lib.hid (HV3.out.only hO4 hns)
        have HV4 := Lib.hid (hV4.mono (ok' := fun g => w2.heap.size ≤ g) fun g hg => Nat.le_trans HS3.out hg)
        have HA4 := Lib.hid hA4
        have HNS := Lib.hid hns
        clear HA3 HXA3 HXB3 HB3 HV3 HLO HS3 x0 x1 hV4 hA4 hO4 hns
        have x0 := RowAt.cell HXA4.out (i := 0) rfl
        have x1 := RowAt.cell HXA4.out (i := 1) rfl
        have y0 := RowAt.cell HXB4.out (i := 0) rfl
        have y1 := RowAt.cell HXB4.out (i := 1) rfl
        obtain ⟨D, hD⟩ : ∃ D, (dropAll L Fa).length = D := ⟨_, rfl⟩
        have HD := Lib.hid hD
        have wD : wrap64 ((L.length : Int) - (Fa.length : Int)) = (D : Int) := wrapD (hD ▸ HT.out.len) hL4
        have hD4 : (dropAll L Fa).length ≤ 4096 := by have := HT.out.len; omega
        have heq := eql_ek (a1, a2) (b1, b2)
        unfold ek at heq
        have HD4 := Lib.hid hD4
        clear hD hD4
        by_cases hab : (a1, a2) = (b1, b2)
        · have hFG : Fb = Fa := by have h1 := HT.out.fa; have h2 := HT.out.gb; rw [← hab] at h2; exact h2.symm.trans h1
          rw [decide_eq_true hab] at heq
          have sm : decide ((Fa.map fun x : Nat => (x : Int)) = Fb.map fun x : Nat => (x : Int)) = true := by rw [hFG]; simp
          have HSM := Lib.hid sm
          have ln : (ofK (dropAll L Fa) (a1, a2)).length = 0 := by rw [HT.out.da]; rfl
          have HLN := Lib.hid ln
          have HFL := Lib.hid (show (Fa.map fun x : Nat => (x : Int)).length ≤ 1000000000 ∧ (Fb.map fun x : Nat => (x : Int)).length ≤ 1000000000 by have h1 := HT.out.fl; have h2 := HT.out.gl; simp only [List.length_map]; omega)
          clear hFG sm ln hab
          go_upto_region 13 with (first | simp only [heq] | fail)
          clear x0 x1 y0 y1 heq
          go_wp2_with (first
            | (go_at_call 15; refine (known17 _).mono ?_; rintro e w5 ⟨rfl, hb5⟩)
            | (go_at_call 18; refine (same_any _ _ _ _ _ _ _ (HV4.out.ext hb5) (HV34.out.ext hb5) HFL.out.1 HFL.out.2).mono ?_; rintro e w6 ⟨rfl, hb6⟩; rw [HSM.out]; have HA6 := Lib.hid (ChAt.ext HA4.out (below_then hb5 hb6)))
            | (go_at_call 14; refine (total_any b bm bl R _ lk4 _ HA6.out HD4.out).mono ?_; rintro e w7 ⟨rfl, hb7⟩; rw [HD.out]; have HA7 := Lib.hid (ChAt.ext HA6.out hb7); have x0 := RowAt.cell (RowAt.ext HXA4.out (below_then (below_then hb5 hb6) hb7)) (i := 0) rfl; have x1 := RowAt.cell (RowAt.ext HXA4.out (below_then (below_then hb5 hb6) hb7)) (i := 1) rfl)
            | (go_at_call 13; refine (len_any b bm bl R _ lk4 _ HA7.out (a1, a2)).mono ?_; rintro e w8 ⟨rfl, hb8⟩; rw [HLN.out]))
          go_ret
          exact ⟨rfl, below_then HB4.out (below_then (below_then (below_then hb5 hb6) hb7) hb8)⟩
        · rw [decide_eq_false hab] at heq
          have HAB := Lib.hid hab
          have HLN := Lib.hid (show (ofK (dropAll L Fa) (a1, a2)).length = 0 by rw [HT.out.da]; rfl)
          have HFL := Lib.hid (show (Fb.map fun x : Nat => (x : Int)).length ≤ 1000000000 by have h2 := HT.out.gl; simp only [List.length_map]; omega)
          clear hab
          go_upto_region 13 with (first | simp only [heq] | fail)
          go_upto_region 14 with fail
          clear heq x0 x1
          go_upto_region 16 with (first
            | (go_at_call 16; refine (all_any R hR4 b bm bl b1 b2 _ lk4 _ HA4.out).mono ?_; rw [HT.out.db HAB.out]; rintro e w5 ⟨v5, rfl, hV5, hb5⟩; have HV5 := Lib.hid hV5; clear hV5)
            | (go_at_call 18; refine (same_any _ _ _ _ _ _ _ HV5.out (HV34.out.ext hb5) HFL.out HFL.out).mono ?_; rintro e w6 ⟨rfl, hb6⟩; rw [same_t (L := Fb.map fun x : Nat => (x : Int)) rfl]; have HA6 := Lib.hid (ChAt.ext HA4.out (below_then hb5 hb6)); have x0 := RowAt.cell (RowAt.ext HXA4.out (below_then hb5 hb6)) (i := 0) rfl; have x1 := RowAt.cell (RowAt.ext HXA4.out (below_then hb5 hb6)) (i := 1) rfl)
            | (go_at_call 13; refine (len_any b bm bl R _ lk4 _ HA6.out (a1, a2)).mono ?_; rintro e w7 ⟨rfl, hb7⟩; rw [HLN.out]; have HA7 := Lib.hid (ChAt.ext HA6.out hb7))
            | (go_at_call 14; refine (total_any b bm bl R _ lk4 _ HA7.out HD4.out).mono ?_; rintro e w8 ⟨rfl, hb8⟩; rw [HD.out]))
          have hb := below_then (below_then (below_then hb5 hb6) hb7) hb8
          have HA8 := Lib.hid (ChAt.ext HA4.out hb)
          have HXB8 := Lib.hid (RowAt.ext HXB4.out hb)
          have HB8 := Lib.hid (below_then HB4.out hb)
          have HV38 := Lib.hid (HV34.out.ext hb)
          have HV48 := Lib.hid (HV4.out.ext hb)
          clear HA4 HXA4 HXB4 HB4 HV34 HV4 HA6 HA7 HV5 hb5 hb6 hb7 hb8 hb x0 x1 y0 y1 HLN HD4
          go_upto_region 17 with fail
          rw [wD]
          go_loopw [15] (fun i wr => ∃ (t : Nat) (lk : Nat → Lk (Int × Int)), t ≤ Fa.length ∧ i = .int .i64 t ∧ ChAt wr b bm bl R (lp L (b1, b2) Fa t) lk ∧ RowAt wr (W.heap.size + 1) #[.int .i64 b1, .int .i64 b2] 28 ∧ Lst .i64 wr (.slice p3 Fb.length c3) (zs Fb) (fun g => w2.heap.size ≤ g) ∧ Lst .i64 wr (.slice p4 Fa.length c4) (zs Fa) (fun g => w2.heap.size ≤ g) ∧ Below W.heap.size W wr) (fun i _ => Fa.length - (intOf i).toNat)
          case atStart => exact ⟨0, lk4, by omega, rfl, by unfold lp; simpa using HA8.out, HXB8.out, HV38.out, HV48.out, HB8.out⟩
          case round =>
            clear HA8 HXB8 HB8 HV38 HV48
            obtain ⟨t, lk, ht, rfl, hA, hXB, hV3, hV4, hB⟩ := hrel
            have HA := Lib.hid hA
            have HXB := Lib.hid hXB
            have HB := Lib.hid hB
            have HV3 := Lib.hid hV3
            have HV4 := Lib.hid hV4
            by_cases htl : t < Fa.length
            · have d1 : decide ((t : Int) < (Fa.length : Int)) = true := dec_t (by omega)
              have d1' : decide (t < Fa.length) = true := dec_t htl
              have ok1 : okP R lk ((Fa[t] : Nat) : Int) = true := by
                obtain ⟨M, c, cp, q⟩ := hA
                exact okP_out q.rep (HT.out.lt _ (List.getElem_mem htl)) (HT.out.out_lp htl)
              obtain ⟨q, hq⟩ : ∃ q : Addr, p4 = some q ∧ q.block < wr.heap.size ∧ wr.cell? (q.add t) = some (.int .i64 ((Fa[t] : Nat) : Int)) := by
                obtain ⟨a', c', e1, h4⟩ := Lst.sl hV4
                rw [zs_len] at e1 h4
                obtain ⟨q, q1, -, q4⟩ := h4 (by omega)
                injection e1 with e1
                have hc := q4 t (.int .i64 ((Fa[t] : Nat) : Int)) (by simp [zs, htl])
                have hb := World.block_lt_of_cell? wr _ hc
                rw [addr_add_block] at hb
                exact ⟨q, e1.trans q1, hb, hc⟩
              obtain ⟨rfl, hq1, hq2⟩ := hq
              obtain ⟨X, hX⟩ : ∃ X : Nat, Fa[t] = X := ⟨_, rfl⟩
              rw [hX] at ok1 hq2
              have HX := Lib.hid hX
              have HOK := Lib.hid ok1
              have s1 : ∀ x : Ext wr.heap.size wr, x.world.cell? (q.add t) = some (.int .i64 (X : Int)) := fun x => (x.ok.cell (p := q.add t) (by rw [addr_add_block]; exact hq1)).trans hq2
              obtain ⟨hkB, _⟩ := Ext.cells hXB
              have s2 : ∀ x : Ext wr.heap.size wr, x.world.cell? ⟨W.heap.size + 1, 0, none⟩ = some (.int .i64 b1) := fun x => hkB x 0
              have s3 : ∀ x : Ext wr.heap.size wr, x.world.cell? ⟨W.heap.size + 1, 1, none⟩ = some (.int .i64 b2) := fun x => hkB x 1
              have hti : (t : Int) < (Fa.length : Int) := by omega
              have w1 := wrap_succ (show t ≤ 1000000 from Nat.le_trans (Nat.le_of_lt htl) (Nat.le_trans HT.out.fl (Nat.le_trans R2 (by decide))))
              have HW1 := Lib.hid w1
              clear w1 hA hXB hV3 hV4 hB hX ok1 hq1 hq2 hkB
              go_upto_region 19 with fail
              refine wp_start (w := wr) ?_
              intro x0
              refine wp_region_ext_tail _ 6 (by kernel_rfl) (by kernel_rfl) (by kernel_rfl) ?_
              simp only [List.take_succ_cons, List.take_zero, List.drop_succ_cons, List.drop_zero]
              repeat (go_big_quiet_step (fail))
              refine wpQuiet_nil ?_
              rintro _ ⟨y, rfl⟩
              clear s1 s2 s3
              have HAY := Lib.hid (ChAt.ext HA.out y.ok)
              have HY := Lib.hid y.ok
              go_wp2_with (go_at_call 8; refine (push_all b bm bl R _ lk _ HAY.out hR4 b1 b2 X).mono ?_; rintro e w5 ⟨rfl, ⟨lk5, hA5⟩, hO5⟩; rw [HOK.out])
              go_roundw
              case measure =>
                rw [HW1.out]
                show Fa.length - ((t : Int) + 1).toNat < Fa.length - ((t : Int)).toNat
                exact step_lt htl
              case rel =>
                have hg := HG.out
                have hL5 : pushI R lk (lp L (b1, b2) Fa t) (b1, b2) (X : Int) = lp L (b1, b2) Fa (t + 1) := by
                  unfold pushI
                  rw [if_pos HOK.out, Int.toNat_natCast, ← HX.out]
                  exact lp_succ htl
                rw [hL5] at hA5
                refine ⟨t + 1, lk5, by omega, by rw [HW1.out]; simp, hA5, RowAt.only (RowAt.ext HXB.out HY.out) hO5 (by rintro (q | q) <;> omega), (HV3.out.ext HY.out).only hO5 HNS.out, (HV4.out.ext HY.out).only hO5 HNS.out, only_new (below_then HB.out HY.out) hO5 (by omega) (by omega)⟩
            · obtain rfl : t = Fa.length := by omega
              have d1 : decide ((Fa.length : Int) < (Fa.length : Int)) = false := dec_f (by omega)
              have d1' : decide (Fa.length < Fa.length) = false := dec_f (by omega)
              have y0 := RowAt.cell HXB.out (i := 0) rfl
              have y1 := RowAt.cell HXB.out (i := 1) rfl
              have HEB := Lib.hid (HT.out.end_b HAB.out)
              have HEL := Lib.hid HT.out.end_len
              have hFl : Fa.length ≤ 4096 ∧ Fb.length ≤ 4096 := ⟨Nat.le_trans HT.out.fl hR4, Nat.le_trans HT.out.gl hR4⟩
              have HFL2 := Lib.hid hFl
              have HBW := Lib.hid hB.size
              have HIC := Lib.hid (show ∀ G : List Nat, ∀ y ∈ (zs G).map (Value.int .i64), y.oneCell' = true by
                intro G y hy
                obtain ⟨z, -, rfl⟩ := List.mem_map.1 hy
                rfl)
              clear hA hXB hV3 hV4 hB htl hFl
              go_wp2_with (first
                | (go_at_call 15; refine (known17 _).mono ?_; rintro e w5 ⟨rfl, hb5⟩; have HA5 := Lib.hid (ChAt.ext HA.out hb5); have z0 := RowAt.cell (RowAt.ext HXB.out hb5) (i := 0) rfl; have z1 := RowAt.cell (RowAt.ext HXB.out hb5) (i := 1) rfl)
                | (go_at_call 16; refine (all_any R hR4 b bm bl b1 b2 _ lk _ HA5.out).mono ?_; rw [HEB.out]; rintro e w6 ⟨v6, rfl, hV6, hb6⟩; have HV6 := Lib.hid (show Lst .i64 w6 v6 (zs (Fb ++ Fa)) _ from hV6); clear hV6)
                | (at_builtin; refine wpList_append_l rfl (.tmp 126) (.tmp 127) 40 rfl w6.heap.size 3 1 8 Try.underlying40 (by kernel_rfl) (by decide) (by decide) _ 0 [] rfl (own_empty w6 3 (Nat.le_refl _)) _ Fb.length ((zs Fb).map (Value.int .i64)) rfl (by obtain ⟨a', c', e1, h4⟩ := Lst.sl ((HV3.out.ext (below_then hb5 hb6)).ext (below_new (Below.refl _ _) _)); rw [zs_len] at e1 h4; exact ⟨a', c', e1, fun h0 => by obtain ⟨p, h5, -, h6⟩ := h4 h0; exact ⟨p, h5, h6⟩⟩) (by simp [zs]) (HIC.out _) (by have := HFL2.out; omega) (by simp) ?_; intro v7 w7 hown7 ho7 hat7; have HO7 := Lib.hid hown7; have HP7 := Lib.hid (show Below w6.heap.size w6 w7 from Only.below (below_new (Below.refl _ _) _) ho7 (fun k hk => by have hk' : some k = some w6.heap.size := hk; injection hk' with hk'; exact Nat.le_of_eq hk'.symm) (by simp)); clear hown7 ho7 hat7)
                | (at_builtin; refine wpList_append_l rfl (.tmp 128) (.tmp 129) 40 rfl w6.heap.size 3 1 8 Try.underlying40 (by kernel_rfl) (by decide) (by decide) _ (0 + Fb.length) _ rfl HO7.out _ Fa.length ((zs Fa).map (Value.int .i64)) rfl (by obtain ⟨a', c', e1, h4⟩ := Lst.sl ((HV4.out.ext (below_then hb5 hb6)).ext HP7.out); rw [zs_len] at e1 h4; exact ⟨a', c', e1, fun h0 => by obtain ⟨p, h5, -, h6⟩ := h4 h0; exact ⟨p, h5, h6⟩⟩) (by simp [zs]) (HIC.out _) (by have := HFL2.out; omega) HP7.out.size ?_; intro v8 w8 hown8 ho8 hat8; have HO8 := Lib.hid hown8; have HP8 := Lib.hid (show Below w6.heap.size w6 w8 from Only.below HP7.out ho8 (fun k hk => (ownsRow_base HO7.out k hk.symm).1) HP7.out.size); clear hown8 ho8 hat8)
                | (go_at_call 18; refine (same_any _ (zs (Fb ++ Fa)) _ _ _ _ _ (HV6.out.ext HP8.out) (Lst.of_own (by rw [zs_app, List.length_append, zs_len, zs_len, List.map_append]; simpa using HO8.out)) (by rw [zs_len, List.length_append]; have := HFL2.out; omega) (by rw [zs_len, List.length_append]; have := HFL2.out; omega)).mono ?_; rintro e w9 ⟨rfl, hb9⟩; rw [same_t (L := zs (Fb ++ Fa)) rfl]; have HA9 := Lib.hid (ChAt.ext HA5.out (below_then (below_then hb6 HP8.out) hb9)))
                | (go_at_call 14; refine (total_any b bm bl R _ lk _ HA9.out (by rw [HEL.out]; exact hL4)).mono ?_; rintro e w10 ⟨rfl, hb10⟩; rw [HEL.out]))
              go_ret
              exact ⟨rfl, below_then HB.out (below_then (below_then hb5 (below_then (below_then hb6 HP8.out) hb9)) hb10)⟩
      · go_upto_region 9 with fail
        clear dl1 dl2 dl3
        have hL4 : L.length ≤ 4096 := Nat.le_trans HT.out.ll hR4
        go_upto_region 10 with (go_at_call 14; refine (total_any b bm bl R L lk _ HA.out hL4).mono ?_; rintro e w2 ⟨rfl, hb2⟩)
        have HA2 := Lib.hid (ChAt.ext HA.out hb2)
        have HXA2 := Lib.hid (RowAt.ext HXA.out hb2)
        have HXB2 := Lib.hid (RowAt.ext HXB.out hb2)
        have HB2 := Lib.hid (below_then HB.out hb2)
        clear HA HXA HXB HB hb2
        have y0 := RowAt.cell HXB2.out (i := 0) rfl
        have y1 := RowAt.cell HXB2.out (i := 1) rfl
        go_upto_region 11 with (go_at_call 16; refine (all_any R hR4 b bm bl b1 b2 L lk _ HA2.out).mono ?_; rintro e w3 ⟨v3, rfl, hV3, hb3⟩)
        rw [HT.out.gb] at hV3
        obtain ⟨p3, c3, rfl, hV3⟩ := hV3.len (n := Fb.length) (by simp)
        have HLO := Lib.hid (show bm < w2.heap.size ∧ bl < w2.heap.size by obtain ⟨M, c, cp, q⟩ := HA2.out; exact ⟨q.m.lt, q.lks.lt⟩)
        have HA3 := Lib.hid (ChAt.ext HA2.out hb3)
        have HXA3 := Lib.hid (RowAt.ext HXA2.out hb3)
        have HXB3 := Lib.hid (RowAt.ext HXB2.out hb3)
        have HB3 := Lib.hid (below_then HB2.out hb3)
        have HV3 := Lib.hid hV3
        have HS3 := Lib.hid hb3.size
        clear HA2 HXA2 HXB2 HB2 hb3 y0 y1 hV3
        have x0 := RowAt.cell HXA3.out (i := 0) rfl
        have x1 := RowAt.cell HXA3.out (i := 1) rfl
        go_upto_region 12 with (go_at_call 17; refine (take_any R hR4 b bm bl a1 a2 L lk _ HA3.out).mono ?_; rintro e w4 ⟨v4, rfl, hV4, ⟨lk4, hA4⟩, hO4⟩)
        rw [HT.out.fa] at hV4 hA4
        obtain ⟨p4, c4, rfl, hV4⟩ := hV4.len (n := Fa.length) (by simp)
        have hns : ∀ g, w2.heap.size ≤ g → ¬ S2 bm bl g := by
          have := HLO.out
          rintro g hg (q | q) <;> omega
        have HXA4 := Lib.hid (RowAt.only HXA3.out hO4 (by have := HG.out; rintro (q | q) <;> omega))
        have HXB4 := Lib.hid (RowAt.only HXB3.out hO4 (by have := HG.out; rintro (q | q) <;> omega))
        have HB4 := Lib.hid (only_new HB3.out hO4 (by have := HG.out; omega) (by have := HG.out; omega))
        have HV34 := Lib.hid (HV3.out.only hO4 hns)
        have HV4 := Lib.hid (hV4.mono (ok' := fun g => w2.heap.size ≤ g) fun g hg => Nat.le_trans HS3.out hg)
        have HA4 := Lib.hid hA4
        have HNS := Lib.hid hns
        clear HA3 HXA3 HXB3 HB3 HV3 HLO HS3 x0 x1 hV4 hA4 hO4 hns
        have x0 := RowAt.cell HXA4.out (i := 0) rfl
        have x1 := RowAt.cell HXA4.out (i := 1) rfl
        have y0 := RowAt.cell HXB4.out (i := 0) rfl
        have y1 := RowAt.cell HXB4.out (i := 1) rfl
        obtain ⟨D, hD⟩ : ∃ D, (dropAll L Fa).length = D := ⟨_, rfl⟩
        have HD := Lib.hid hD
        have wD : wrap64 ((L.length : Int) - (Fa.length : Int)) = (D : Int) := wrapD (hD ▸ HT.out.len) hL4
        have hD4 : (dropAll L Fa).length ≤ 4096 := by have := HT.out.len; omega
        have heq := eql_ek (a1, a2) (b1, b2)
        unfold ek at heq
        have HD4 := Lib.hid hD4
        clear hD hD4
        by_cases hab : (a1, a2) = (b1, b2)
        · have hFG : Fb = Fa := by have h1 := HT.out.fa; have h2 := HT.out.gb; rw [← hab] at h2; exact h2.symm.trans h1
          rw [decide_eq_true hab] at heq
          have sm : decide ((Fa.map fun x : Nat => (x : Int)) = Fb.map fun x : Nat => (x : Int)) = true := by rw [hFG]; simp
          have HSM := Lib.hid sm
          have ln : (ofK (dropAll L Fa) (a1, a2)).length = 0 := by rw [HT.out.da]; rfl
          have HLN := Lib.hid ln
          have HFL := Lib.hid (show (Fa.map fun x : Nat => (x : Int)).length ≤ 1000000000 ∧ (Fb.map fun x : Nat => (x : Int)).length ≤ 1000000000 by have h1 := HT.out.fl; have h2 := HT.out.gl; simp only [List.length_map]; omega)
          clear hFG sm ln hab
          go_upto_region 13 with (first | simp only [heq] | fail)
          clear x0 x1 y0 y1 heq
          go_wp2_with (first
            | (go_at_call 15; refine (known17 _).mono ?_; rintro e w5 ⟨rfl, hb5⟩)
            | (go_at_call 18; refine (same_any _ _ _ _ _ _ _ (HV4.out.ext hb5) (HV34.out.ext hb5) HFL.out.1 HFL.out.2).mono ?_; rintro e w6 ⟨rfl, hb6⟩; rw [HSM.out]; have HA6 := Lib.hid (ChAt.ext HA4.out (below_then hb5 hb6)))
            | (go_at_call 14; refine (total_any b bm bl R _ lk4 _ HA6.out HD4.out).mono ?_; rintro e w7 ⟨rfl, hb7⟩; rw [HD.out]; have HA7 := Lib.hid (ChAt.ext HA6.out hb7); have x0 := RowAt.cell (RowAt.ext HXA4.out (below_then (below_then hb5 hb6) hb7)) (i := 0) rfl; have x1 := RowAt.cell (RowAt.ext HXA4.out (below_then (below_then hb5 hb6) hb7)) (i := 1) rfl)
            | (go_at_call 13; refine (len_any b bm bl R _ lk4 _ HA7.out (a1, a2)).mono ?_; rintro e w8 ⟨rfl, hb8⟩; rw [HLN.out]))
          go_ret
          exact ⟨rfl, below_then HB4.out (below_then (below_then (below_then hb5 hb6) hb7) hb8)⟩
        · rw [decide_eq_false hab] at heq
          have HAB := Lib.hid hab
          have HLN := Lib.hid (show (ofK (dropAll L Fa) (a1, a2)).length = 0 by rw [HT.out.da]; rfl)
          have HFL := Lib.hid (show (Fb.map fun x : Nat => (x : Int)).length ≤ 1000000000 by have h2 := HT.out.gl; simp only [List.length_map]; omega)
          clear hab
          go_upto_region 13 with (first | simp only [heq] | fail)
          go_upto_region 14 with fail
          clear heq x0 x1
          go_upto_region 16 with (first
            | (go_at_call 16; refine (all_any R hR4 b bm bl b1 b2 _ lk4 _ HA4.out).mono ?_; rw [HT.out.db HAB.out]; rintro e w5 ⟨v5, rfl, hV5, hb5⟩; have HV5 := Lib.hid hV5; clear hV5)
            | (go_at_call 18; refine (same_any _ _ _ _ _ _ _ HV5.out (HV34.out.ext hb5) HFL.out HFL.out).mono ?_; rintro e w6 ⟨rfl, hb6⟩; rw [same_t (L := Fb.map fun x : Nat => (x : Int)) rfl]; have HA6 := Lib.hid (ChAt.ext HA4.out (below_then hb5 hb6)); have x0 := RowAt.cell (RowAt.ext HXA4.out (below_then hb5 hb6)) (i := 0) rfl; have x1 := RowAt.cell (RowAt.ext HXA4.out (below_then hb5 hb6)) (i := 1) rfl)
            | (go_at_call 13; refine (len_any b bm bl R _ lk4 _ HA6.out (a1, a2)).mono ?_; rintro e w7 ⟨rfl, hb7⟩; rw [HLN.out]; have HA7 := Lib.hid (ChAt.ext HA6.out hb7))
            | (go_at_call 14; refine (total_any b bm bl R _ lk4 _ HA7.out HD4.out).mono ?_; rintro e w8 ⟨rfl, hb8⟩; rw [HD.out]))
          have hb := below_then (below_then (below_then hb5 hb6) hb7) hb8
          have HA8 := Lib.hid (ChAt.ext HA4.out hb)
          have HXB8 := Lib.hid (RowAt.ext HXB4.out hb)
          have HB8 := Lib.hid (below_then HB4.out hb)
          have HV38 := Lib.hid (HV34.out.ext hb)
          have HV48 := Lib.hid (HV4.out.ext hb)
          clear HA4 HXA4 HXB4 HB4 HV34 HV4 HA6 HA7 HV5 hb5 hb6 hb7 hb8 hb x0 x1 y0 y1 HLN HD4
          go_upto_region 17 with fail
          rw [wD]
          go_loopw [15] (fun i wr => ∃ (t : Nat) (lk : Nat → Lk (Int × Int)), t ≤ Fa.length ∧ i = .int .i64 t ∧ ChAt wr b bm bl R (lp L (b1, b2) Fa t) lk ∧ RowAt wr (W.heap.size + 1) #[.int .i64 b1, .int .i64 b2] 28 ∧ Lst .i64 wr (.slice p3 Fb.length c3) (zs Fb) (fun g => w2.heap.size ≤ g) ∧ Lst .i64 wr (.slice p4 Fa.length c4) (zs Fa) (fun g => w2.heap.size ≤ g) ∧ Below W.heap.size W wr) (fun i _ => Fa.length - (intOf i).toNat)
          case atStart => exact ⟨0, lk4, by omega, rfl, by unfold lp; simpa using HA8.out, HXB8.out, HV38.out, HV48.out, HB8.out⟩
          case round =>
            clear HA8 HXB8 HB8 HV38 HV48
            obtain ⟨t, lk, ht, rfl, hA, hXB, hV3, hV4, hB⟩ := hrel
            have HA := Lib.hid hA
            have HXB := Lib.hid hXB
            have HB := Lib.hid hB
            have HV3 := Lib.hid hV3
            have HV4 := Lib.hid hV4
            by_cases htl : t < Fa.length
            · have d1 : decide ((t : Int) < (Fa.length : Int)) = true := dec_t (by omega)
              have d1' : decide (t < Fa.length) = true := dec_t htl
              have ok1 : okP R lk ((Fa[t] : Nat) : Int) = true := by
                obtain ⟨M, c, cp, q⟩ := hA
                exact okP_out q.rep (HT.out.lt _ (List.getElem_mem htl)) (HT.out.out_lp htl)
              obtain ⟨q, hq⟩ : ∃ q : Addr, p4 = some q ∧ q.block < wr.heap.size ∧ wr.cell? (q.add t) = some (.int .i64 ((Fa[t] : Nat) : Int)) := by
                obtain ⟨a', c', e1, h4⟩ := Lst.sl hV4
                rw [zs_len] at e1 h4
                obtain ⟨q, q1, -, q4⟩ := h4 (by omega)
                injection e1 with e1
                have hc := q4 t (.int .i64 ((Fa[t] : Nat) : Int)) (by simp [zs, htl])
                have hb := World.block_lt_of_cell? wr _ hc
                rw [addr_add_block] at hb
                exact ⟨q, e1.trans q1, hb, hc⟩
              obtain ⟨rfl, hq1, hq2⟩ := hq
              obtain ⟨X, hX⟩ : ∃ X : Nat, Fa[t] = X := ⟨_, rfl⟩
              rw [hX] at ok1 hq2
              have HX := Lib.hid hX
              have HOK := Lib.hid ok1
              have s1 : ∀ x : Ext wr.heap.size wr, x.world.cell? (q.add t) = some (.int .i64 (X : Int)) := fun x => (x.ok.cell (p := q.add t) (by rw [addr_add_block]; exact hq1)).trans hq2
              obtain ⟨hkB, _⟩ := Ext.cells hXB
              have s2 : ∀ x : Ext wr.heap.size wr, x.world.cell? ⟨W.heap.size + 1, 0, none⟩ = some (.int .i64 b1) := fun x => hkB x 0
              have s3 : ∀ x : Ext wr.heap.size wr, x.world.cell? ⟨W.heap.size + 1, 1, none⟩ = some (.int .i64 b2) := fun x => hkB x 1
              have hti : (t : Int) < (Fa.length : Int) := by omega
              have w1 := wrap_succ (show t ≤ 1000000 from Nat.le_trans (Nat.le_of_lt htl) (Nat.le_trans HT.out.fl (Nat.le_trans R2 (by decide))))
              have HW1 := Lib.hid w1
              clear w1 hA hXB hV3 hV4 hB hX ok1 hq1 hq2 hkB
              go_upto_region 19 with fail
              refine wp_start (w := wr) ?_
              intro x0
              refine wp_region_ext_tail _ 6 (by kernel_rfl) (by kernel_rfl) (by kernel_rfl) ?_
              simp only [List.take_succ_cons, List.take_zero, List.drop_succ_cons, List.drop_zero]
              repeat (go_big_quiet_step (fail))
              refine wpQuiet_nil ?_
              rintro _ ⟨y, rfl⟩
              clear s1 s2 s3
              have HAY := Lib.hid (ChAt.ext HA.out y.ok)
              have HY := Lib.hid y.ok
              go_wp2_with (go_at_call 8; refine (push_all b bm bl R _ lk _ HAY.out hR4 b1 b2 X).mono ?_; rintro e w5 ⟨rfl, ⟨lk5, hA5⟩, hO5⟩; rw [HOK.out])
              go_roundw
              case measure =>
                rw [HW1.out]
                show Fa.length - ((t : Int) + 1).toNat < Fa.length - ((t : Int)).toNat
                exact step_lt htl
              case rel =>
                have hg := HG.out
                have hL5 : pushI R lk (lp L (b1, b2) Fa t) (b1, b2) (X : Int) = lp L (b1, b2) Fa (t + 1) := by
                  unfold pushI
                  rw [if_pos HOK.out, Int.toNat_natCast, ← HX.out]
                  exact lp_succ htl
                rw [hL5] at hA5
                refine ⟨t + 1, lk5, by omega, by rw [HW1.out]; simp, hA5, RowAt.only (RowAt.ext HXB.out HY.out) hO5 (by rintro (q | q) <;> omega), (HV3.out.ext HY.out).only hO5 HNS.out, (HV4.out.ext HY.out).only hO5 HNS.out, only_new (below_then HB.out HY.out) hO5 (by omega) (by omega)⟩
            · obtain rfl : t = Fa.length := by omega
              have d1 : decide ((Fa.length : Int) < (Fa.length : Int)) = false := dec_f (by omega)
              have d1' : decide (Fa.length < Fa.length) = false := dec_f (by omega)
              have y0 := RowAt.cell HXB.out (i := 0) rfl
              have y1 := RowAt.cell HXB.out (i := 1) rfl
              have HEB := Lib.hid (HT.out.end_b HAB.out)
              have HEL := Lib.hid HT.out.end_len
              have hFl : Fa.length ≤ 4096 ∧ Fb.length ≤ 4096 := ⟨Nat.le_trans HT.out.fl hR4, Nat.le_trans HT.out.gl hR4⟩
              have HFL2 := Lib.hid hFl
              have HBW := Lib.hid hB.size
              have HIC := Lib.hid (show ∀ G : List Nat, ∀ y ∈ (zs G).map (Value.int .i64), y.oneCell' = true by
                intro G y hy
                obtain ⟨z, -, rfl⟩ := List.mem_map.1 hy
                rfl)
              clear hA hXB hV3 hV4 hB htl hFl
              go_wp2_with (first
                | (go_at_call 15; refine (known17 _).mono ?_; rintro e w5 ⟨rfl, hb5⟩; have HA5 := Lib.hid (ChAt.ext HA.out hb5); have z0 := RowAt.cell (RowAt.ext HXB.out hb5) (i := 0) rfl; have z1 := RowAt.cell (RowAt.ext HXB.out hb5) (i := 1) rfl)
                | (go_at_call 16; refine (all_any R hR4 b bm bl b1 b2 _ lk _ HA5.out).mono ?_; rw [HEB.out]; rintro e w6 ⟨v6, rfl, hV6, hb6⟩; have HV6 := Lib.hid (show Lst .i64 w6 v6 (zs (Fb ++ Fa)) _ from hV6); clear hV6)
                | (at_builtin; refine wpList_append_l rfl (.tmp 126) (.tmp 127) 40 rfl w6.heap.size 3 1 8 Try.underlying40 (by kernel_rfl) (by decide) (by decide) _ 0 [] rfl (own_empty w6 3 (Nat.le_refl _)) _ Fb.length ((zs Fb).map (Value.int .i64)) rfl (by obtain ⟨a', c', e1, h4⟩ := Lst.sl ((HV3.out.ext (below_then hb5 hb6)).ext (below_new (Below.refl _ _) _)); rw [zs_len] at e1 h4; exact ⟨a', c', e1, fun h0 => by obtain ⟨p, h5, -, h6⟩ := h4 h0; exact ⟨p, h5, h6⟩⟩) (by simp [zs]) (HIC.out _) (by have := HFL2.out; omega) (by simp) ?_; intro v7 w7 hown7 ho7 hat7; have HO7 := Lib.hid hown7; have HP7 := Lib.hid (show Below w6.heap.size w6 w7 from Only.below (below_new (Below.refl _ _) _) ho7 (fun k hk => by have hk' : some k = some w6.heap.size := hk; injection hk' with hk'; exact Nat.le_of_eq hk'.symm) (by simp)); clear hown7 ho7 hat7)
                | (at_builtin; refine wpList_append_l rfl (.tmp 128) (.tmp 129) 40 rfl w6.heap.size 3 1 8 Try.underlying40 (by kernel_rfl) (by decide) (by decide) _ (0 + Fb.length) _ rfl HO7.out _ Fa.length ((zs Fa).map (Value.int .i64)) rfl (by obtain ⟨a', c', e1, h4⟩ := Lst.sl ((HV4.out.ext (below_then hb5 hb6)).ext HP7.out); rw [zs_len] at e1 h4; exact ⟨a', c', e1, fun h0 => by obtain ⟨p, h5, -, h6⟩ := h4 h0; exact ⟨p, h5, h6⟩⟩) (by simp [zs]) (HIC.out _) (by have := HFL2.out; omega) HP7.out.size ?_; intro v8 w8 hown8 ho8 hat8; have HO8 := Lib.hid hown8; have HP8 := Lib.hid (show Below w6.heap.size w6 w8 from Only.below HP7.out ho8 (fun k hk => (ownsRow_base HO7.out k hk.symm).1) HP7.out.size); clear hown8 ho8 hat8)
                | (go_at_call 18; refine (same_any _ (zs (Fb ++ Fa)) _ _ _ _ _ (HV6.out.ext HP8.out) (Lst.of_own (by rw [zs_app, List.length_append, zs_len, zs_len, List.map_append]; simpa using HO8.out)) (by rw [zs_len, List.length_append]; have := HFL2.out; omega) (by rw [zs_len, List.length_append]; have := HFL2.out; omega)).mono ?_; rintro e w9 ⟨rfl, hb9⟩; rw [same_t (L := zs (Fb ++ Fa)) rfl]; have HA9 := Lib.hid (ChAt.ext HA5.out (below_then (below_then hb6 HP8.out) hb9)))
                | (go_at_call 14; refine (total_any b bm bl R _ lk _ HA9.out (by rw [HEL.out]; exact hL4)).mono ?_; rintro e w10 ⟨rfl, hb10⟩; rw [HEL.out]))
              go_ret
              exact ⟨rfl, below_then HB.out (below_then (below_then hb5 (below_then (below_then hb6 HP8.out) hb9)) hb10)⟩
end Go.Proofs.Ytelnembjcgkiaaa
