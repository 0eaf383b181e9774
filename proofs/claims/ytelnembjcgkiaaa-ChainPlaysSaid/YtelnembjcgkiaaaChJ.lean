/- Chains at keys of two numbers: Take. -/
import Derived.Test.YtelnembjcgkiaaaChI
namespace Go.Proofs.Ytelnembjcgkiaaa
open Go.RowKit Go.Shelf
set_option linter.unusedVariables false
set_option linter.unusedSimpArgs false
attribute [local go_sem] Oper.semAt_some
theorem dropT_out {κ : Type} {L : List (κ × Nat)} {j : Nat} (h : ∀ p ∈ L, p.2 ≠ j) : dropT L j = L := List.filter_eq_self.2 fun p hp => by
  simp only [decide_eq_true_eq]
  exact h p hp
theorem in_out {n : Nat} {L : List ((Int × Int) × Nat)} {lk : Nat → Lk (Int × Int)} {hd : Int × Int → Option (Int × Int × Int)} (h : Rep (0, 0) n L lk hd) {j : Nat} (hin : inB n lk (j : Int) = false) : ∀ p ∈ L, p.2 ≠ j := by
  by_cases hj : j < n
  · refine not_in h ?_
    unfold inB at hin
    rw [if_pos ⟨by omega, by omega⟩, Int.toNat_natCast] at hin
    exact hin
  · intro p hp e
    exact hj (e ▸ h.lt p hp)
def dropAll {κ : Type} (L : List (κ × Nat)) (pre : List Nat) : List (κ × Nat) := pre.foldl dropT L
theorem dropAll_snoc {κ : Type} (L : List (κ × Nat)) (pre : List Nat) (x : Nat) : dropAll L (pre ++ [x]) = dropT (dropAll L pre) x := by
  unfold dropAll; rw [List.foldl_append]; rfl
theorem ofK_dropAll {κ : Type} [DecidableEq κ] (k : κ) : ∀ (pre : List Nat) (L : List (κ × Nat)) (rest : List Nat), (ofK L k).Nodup → ofK L k = pre ++ rest → ofK (dropAll L pre) k = rest
  | [], L, rest, _, h => h
  | y :: pre, L, rest, hn, h => by
    have h1 : ofK (dropT L y) k = pre ++ rest := by
      unfold dropT
      rw [ofK_drop, h, List.cons_append, List.filter_cons]
      rw [h, List.cons_append, List.nodup_cons] at hn
      rw [filter_out hn.1]
      simp
    refine ofK_dropAll k pre (dropT L y) rest ?_ h1
    rw [h1]
    rw [h, List.cons_append, List.nodup_cons] at hn
    exact hn.2
set_option maxHeartbeats 8000000 in
set_option maxRecDepth 100000 in
theorem remove_all (b bm bl n : Nat) (L : List ((Int × Int) × Nat)) (lk : Nat → Lk (Int × Int)) (w : World) (hA : ChAt w b bm bl n L lk) (hn : n ≤ 4096) (x : Nat) :
    Calls Try.prog 9 #[.pointer (some ⟨b, 0, none⟩), .int .i64 x] w fun e w' => e = .returned (.bool (inB n lk x)) ∧ (∃ lk', ChAt w' b bm bl n (dropT L x) lk') ∧ Only (S2 bm bl) w w' := by
  cases h : inB n lk (x : Int) with
  | true => exact remove_yes b bm bl n L lk w hA hn x h
  | false =>
    refine (remove_no b bm bl n L lk w hA hn x h).mono ?_
    rintro e w' ⟨rfl, hb⟩
    have ho : ∀ p ∈ L, p.2 ≠ x := by obtain ⟨M, c, cp, q⟩ := hA; exact in_out q.rep h
    rw [dropT_out ho]
    exact ⟨rfl, ⟨lk, hA.ext hb⟩, only_of hb _⟩
theorem grown_only {W W' : World} {row : Option Nat} {B : Nat} (hg : W.grownBy W' row) (hr : ∀ r, row = some r → B ≤ r) : Only (fun k => B ≤ k) W W' :=
  ⟨hg.os, hg.tape, hg.output, hg.size, fun k hk hs => hg.block k hk (fun e => hs (hr k e.symm))⟩
theorem only_high {S : Nat → Prop} {w W W' : World} {B : Nat} (h : Only S w W) (hk : Only (fun k => B ≤ k) W W') (hB : w.heap.size ≤ B) : Only S w W' :=
  ⟨hk.os.trans h.os, hk.tape.trans h.tape, hk.output.trans h.output, Nat.le_trans h.size hk.size, fun q hq hs => (hk.block q (Nat.lt_of_lt_of_le hq h.size) (fun e => by omega)).trans (h.block q hq hs)⟩
theorem putObj_high (W : World) (l : Nat) (o : Obj) {B : Nat} (h : B ≤ l) : Only (fun k => B ≤ k) W (W.putObj l o) := grown_only (grownBy_putObj' W l o) (fun r e => by cases e; exact h)
theorem only_appended {W w1 : World} {tmp : Obj} {v u : Value} {B : Nat} (hg : (W.alloc tmp).grownBy w1 v.ownBlock) : Only (fun k => k = B ∨ v.ownBlock = some k) W (w1.setCell ⟨B, 0, none⟩ u) :=
  (((Only.refl _ W).alloc tmp).trans ⟨hg.os, hg.tape, hg.output, hg.size, fun k hk hs => hg.block k hk (fun e => hs (.inr e.symm))⟩).set (.inl rfl) 0 u
/-- A row of another type is no row of the call's own. -/
theorem row_not_own {W : World} {k : Nat} {cs : Array Value} {t e : TypeId} {base sz n : Nat} {v : Value} {xs : List Value} (h : RowAt W k cs t) (hte : t ≠ e) (hr : W.ownsRow base e sz v n xs) : v.ownBlock ≠ some k := by
  intro hk
  rcases hr.2 with ⟨rfl, _⟩ | ⟨g, cap, cur, rfl, hb, hg, _⟩
  · simp [Value.ownBlock] at hk
  · obtain rfl : g = k := by simpa [Value.ownBlock] using hk
    rw [show W.heap[g]? = _ from h] at hg
    cases hg
    exact hte rfl
theorem keeps_only {S : Nat → Prop} {W W' : World} {B : Nat} (h : Only S W W') (hS : ∀ k, S k → k < B) : KeepsFrom B W W' :=
  ⟨h.size, fun k o hB hk _ => (h.block k (Array.getElem?_eq_some_iff.1 hk).1 (fun q => by have := hS k q; omega)).trans hk⟩
/-- What Take's rounds keep. -/
structure TkI (w : World) (V b bm bl n : Nat) (k1 k2 : Int) (L : List ((Int × Int) × Nat)) (pre : List Nat) (W : World) : Prop where
  at_ : ∃ lk, ChAt W b bm bl n (dropAll L pre) lk
  c : RowAt W w.heap.size #[.pointer (some ⟨b, 0, none⟩)] 24
  c2 : RowAt W V #[.pointer (some ⟨b, 0, none⟩)] 24
  k : RowAt W (V + 1) #[.int .i64 k1, .int .i64 k2] 28
  o : Only (S2 bm bl) w W
theorem TkI.high {w W W' : World} {V b bm bl n : Nat} {k1 k2 : Int} {L : List ((Int × Int) × Nat)} {pre : List Nat} (h : TkI w V b bm bl n k1 k2 L pre W) (hb : b < w.heap.size ∧ bm < w.heap.size ∧ bl < w.heap.size) {B : Nat} (hV : w.heap.size ≤ V) (hB : V + 2 ≤ B) (hk : Only (fun k => B ≤ k) W W') : TkI w V b bm bl n k1 k2 L pre W' := by
  obtain ⟨⟨lk, hA⟩, h1, h2, h3, h4⟩ := h
  exact ⟨⟨lk, hA.only hk (by omega) (by omega) (by omega)⟩, h1.only hk (by omega), h2.only hk (by omega), h3.only hk (by omega), only_high h4 hk (by omega)⟩
set_option maxHeartbeats 8000000 in
set_option maxRecDepth 100000 in
theorem take_any (n : Nat) (hn : n ≤ 4096) (b bm bl : Nat) (k1 k2 : Int) (L : List ((Int × Int) × Nat)) (lk : Nat → Lk (Int × Int)) (w : World) (hA : ChAt w b bm bl n L lk) :
    Calls Try.prog 17 #[.pointer (some ⟨b, 0, none⟩), .agg #[.int .i64 k1, .int .i64 k2]] w fun e w' => ∃ v, e = .returned v ∧ Lst .i64 w' v ((ofK L (k1, k2)).map fun x : Nat => (x : Int)) (fun g => w.heap.size ≤ g) ∧ (∃ lk', ChAt w' b bm bl n (dropAll L (ofK L (k1, k2))) lk') ∧ Only (S2 bm bl) w w' := by
  obtain ⟨F, hF⟩ : ∃ F, ofK L (k1, k2) = F := ⟨_, rfl⟩
  have hlt : b < w.heap.size ∧ bm < w.heap.size ∧ bl < w.heap.size := by obtain ⟨M, c, cp, q⟩ := hA; exact ⟨q.row.lt, q.m.lt, q.lks.lt⟩
  have hnd : F.Nodup ∧ F.length ≤ n := by
    obtain ⟨M, c, cp, q⟩ := hA
    exact ⟨hF ▸ ofK_nodup q.rep.nd _, hF ▸ len_le q.rep _⟩
  rw [hF]
  obtain ⟨i0, hi, hz0, hz1, hz2⟩ := info_parts info_i
  have HF := Lib.hid hF
  have HL := Lib.hid hlt
  obtain ⟨V, hV⟩ : ∃ V, (((w.alloc (.cells #[.pointer (some ⟨b, 0, none⟩)] 24)).alloc (.cells #[.int .i64 k1, .int .i64 k2] 28 )).alloc (.cells #[.slice none 0 0] 40)) = V := ⟨_, rfl⟩
  have hb3 : Below w.heap.size w V := hV ▸ below_new (below_new (below_new (Below.refl _ _) _) _) _
  have hs3 : V.heap.size = w.heap.size + 3 := by rw [← hV]; simp
  have r1 : RowAt V w.heap.size #[.pointer (some ⟨b, 0, none⟩)] 24 := hV ▸ ((RowAt.new w #[.pointer (some ⟨b, 0, none⟩)] 24).alloc _).alloc _
  have r2 : RowAt V (w.heap.size + 1) #[.int .i64 k1, .int .i64 k2] 28 := by
    have := (RowAt.new (w.alloc (.cells #[.pointer (some ⟨b, 0, none⟩)] 24)) #[.int .i64 k1, .int .i64 k2] 28 ).alloc (.cells #[.slice none 0 0] 40)
    rw [World.size_alloc] at this
    exact hV ▸ this
  have bO : Boxed V (w.heap.size + 1 + 1) 40 (.slice none 0 0) := by
    have := Boxed.new ((w.alloc (.cells #[.pointer (some ⟨b, 0, none⟩)] 24)).alloc (.cells #[.int .i64 k1, .int .i64 k2] 28 )) 40 (.slice none 0 0)
    rw [World.size_alloc, World.size_alloc] at this
    exact hV ▸ this
  obtain ⟨U, hU⟩ : ∃ U, (V.alloc (.cells #[.pointer (some ⟨b, 0, none⟩)] 24)).alloc (.cells #[.int .i64 k1, .int .i64 k2] 28 ) = U := ⟨_, rfl⟩
  have hsU : U.heap.size = V.heap.size + 2 := by rw [← hU]; simp
  have hbU : Below w.heap.size w U := hU ▸ below_new (below_new hb3 _) _
  have hI0 : TkI w V.heap.size b bm bl n k1 k2 L [] U := ⟨⟨lk, hA.ext hbU⟩, hU ▸ (r1.alloc _).alloc _, hU ▸ (RowAt.new V #[.pointer (some ⟨b, 0, none⟩)] 24).alloc _, by
      have := RowAt.new (V.alloc (.cells #[.pointer (some ⟨b, 0, none⟩)] 24)) #[.int .i64 k1, .int .i64 k2] 28
      rw [World.size_alloc] at this
      exact hU ▸ this, only_of hbU _⟩
  have bOU : Boxed U (w.heap.size + 1 + 1) 40 (.slice none 0 0) := hU ▸ (bO.alloc _).alloc _
  have hc0 := r1.cell (i := 0) rfl
  have hk0 := r2.cell (i := 0) rfl
  have hk1 := r2.cell (i := 1) rfl
  have HS3 := Lib.hid hs3
  have HSU := Lib.hid hsU
  have HI0 := Lib.hid hI0
  have HBO := Lib.hid bOU
  have HV := Lib.hid (And.intro hU hbU)
  clear hF hA hlt r1 r2 hb3 hs3 hsU hI0 bOU bO hU hbU
  refine (callsIn_wide (n := 5)).1 ?_
  refine callsIn_of_wp_marks Try.func17 rfl trivial ?_ rfl
  simp only [Try.ntmps17, List.size_toArray, List.length_cons, List.length_nil, Nat.reduceAdd, Nat.reduceSub, Array.replicate_succ, Array.replicate_zero, List.push_toArray, List.append_toArray, List.nil_append, List.cons_append]
  gi_wp2_with (refine ⟨trivial, ?_⟩; gi_at_call 41; refine (callsIn_wide.2 (each_any (some ⟨b, 0, none⟩) k1 k2 _)).mono ?_; rintro e w1 ⟨rfl, rfl⟩)
  rw [HV.out.1]
  clear hc0 hk0 hk1
  have hnV : w.heap.size + 3 = V.heap.size := HS3.out.symm
  have hnU : V.heap.size + 2 = U.heap.size := HSU.out.symm
  refine wpIn_range_at rfl (by omega) (gf := 52) (lb := #[.pointer (some ⟨V.heap.size, 0, none⟩), .pointer (some ⟨V.heap.size + 1, 0, none⟩)]) rfl trivial (enters_of Try.func52 (by kernel_rfl) rfl) (encs := fun x : Nat => #[.int .i64 (x : Int)]) (S := fun xs => xs = F) (N := F.length) (fun _ => rfl)
    (fun pre W => (∃ v, Boxed W (w.heap.size + 1 + 1) 40 v ∧ W.ownsRow (w.heap.size + 1 + 1) 3 1 v pre.length (ic pre) ∧ True) ∧ TkI w V.heap.size b bm bl n k1 k2 L pre W)
    (OwnFrom.and (Own.from (holdsRow_own (w.heap.size + 1 + 1) (w.heap.size + 1 + 1) 40 3 1 (fun pre : List Nat => pre.length) ic (fun _ _ => True)) _) (fun s A B row hs hg hr => hs.high HL.out (by omega) (Nat.le_of_eq hnU) (grown_only hg fun r e => (hr r e).1)))
    ⟨⟨_, HBO.out, ⟨by simp [ic], .inl ⟨rfl, rfl⟩⟩, trivial⟩, HI0.out⟩
    (fun x => { tmps := #[.pointer (some ⟨b, 0, none⟩), .agg #[.int .i64 k1, .int .i64 k2], .pointer (some ⟨w.heap.size, 0, none⟩), .pointer (some ⟨w.heap.size + 1, 0, none⟩), .slice none 0 0, .pointer (some ⟨w.heap.size + 1 + 1, 0, none⟩), .int .i64 (x : Int), .pointer (some ⟨b, 0, none⟩), .agg #[.int .i64 k1, .int .i64 k2], .func (.func 52) #[] #[.pointer (some ⟨V.heap.size, 0, none⟩), .pointer (some ⟨V.heap.size + 1, 0, none⟩)], .int .i64 (x : Int), undef, undef, undef, undef, undef, undef, undef, undef], defers := [] })
    (each1_at n hn _ (by omega) b bm bl V.heap.size (V.heap.size + 1) k1 k2 (dropAll L) F HF.out hnd.1 (fun pre x rest h => ⟨[], ofK_dropAll (k1, k2) pre L (x :: rest) (HF.out ▸ hnd.1) (HF.out ▸ h)⟩) _ (fun pre W h => ⟨h.2.at_, h.2.c2.cell (i := 0) rfl, h.2.k.cell (i := 0) rfl, h.2.k.cell (i := 1) rfl⟩) _)
    ?assign ?body ?done
  case assign =>
    intro l x W K hK
    gi_wp2
    exact hK
  case body =>
    rintro l pre x W ⟨⟨v, hv, hrow, -⟩, hT⟩ hlt
    have hc0 := hT.c.cell (i := 0) rfl
    obtain ⟨lk1, hA1⟩ := hT.at_
    have HT := Lib.hid hT
    have HR := Lib.hid (remove_all b bm bl n _ lk1 W hA1 hn x)
    have HVW := Lib.hid (And.intro hv hrow)
    have hlt2 := hnd.2
    clear hT hA1 hv hrow
    have hsW : w.heap.size + 1 + 1 ≤ W.heap.size := Nat.le_of_lt (Boxed.lt HVW.out.1)
    gi_wp2_with (first | (refine ⟨trivial, ?_⟩; gi_at_call 9; refine (CallsIn.inRound l (callsIn_wide.2 HR.out)).mono ?_; rintro e w1 ⟨rfl, hA2, hO2⟩; have hv1 : Boxed w1 (w.heap.size + 1 + 1) 40 v := RowAt.only HVW.out.1 hO2 (by have := HL.out; rintro (q | q) <;> omega); have hrow1 := ownsRow_only HVW.out.2 hO2 (by have := HL.out; have hob := ownsRow_base HVW.out.2; rintro g hg (q | q) <;> (have := hob g hg; omega)); have hc1 := hv1.cell; have hf1 := hv1.frozen; have hs1 := hO2.size; have HO2 := Lib.hid hO2; have HA2 := Lib.hid hA2; clear hA2 hO2) | (gi_at_builtin; refine wpListIn_append_own _ rfl _ _ 40 rfl (w.heap.size + 1 + 1) 3 i0 (.int .i64 0) 1 8 Try.underlying40 hi hz0 hz1 hz2 rfl (by decide) _ _ _ rfl (hrow1.alloc _) ⟨w1.heap.size, 0, none⟩ 1 1 [.int .i64 (x : Int)] rfl rfl (cell_one_new _ _ _) (by simp [Value.oneCell']) (have h5 : (5000 : Nat) ≤ maxLen := (by unfold maxLen; omega); by omega) (by omega) (by simp; omega) ?_; intro v' w2 hown' hgrow _; obtain ⟨g', cap', rfl⟩ := ownsRow_succ hown'; obtain ⟨hv2, hv3, hr3, hk3, hb3⟩ := hv1.appended (by decide) hrow1 (by omega) (Nat.le_refl _) hown' hgrow; have hc2 := hv2.cell; have hf2 := hv2.frozen; have hO3 := only_appended (B := w.heap.size + 1 + 1) (u := .slice (some ⟨g', 0, none⟩) (pre.length + 1) cap') hgrow))
    have hob := ownsRow_base hrow1
    have hl := HL.out
    have hlow : ∀ k, k < w.heap.size → ¬ (k = w.heap.size + 1 + 1 ∨ v.ownBlock = some k) := by
      rintro k hk (q | q)
      · omega
      · have := hob k q; omega
    have hns : ∀ k, w.heap.size ≤ k → ¬ S2 bm bl k := by
      rintro k hk (q | q) <;> omega
    refine ⟨(keeps_only HO2.out (by rintro k (q | q) <;> omega)).trans (hk3.from _), ⟨_, hv3, by rw [ic_snoc]; exact hr3⟩, ?_⟩
    obtain ⟨lk2, hA2⟩ := HA2.out
    have hT := HT.out
    have c1 := hT.c.only HO2.out (hns _ (Nat.le_refl _))
    have c2 := hT.c2.only HO2.out (hns _ (by omega))
    have c3 := hT.k.only HO2.out (hns _ (by omega))
    refine ⟨⟨lk2, ?_⟩, c1.only hO3 ?_, c2.only hO3 ?_, c3.only hO3 ?_, ?_⟩
    · rw [dropAll_snoc]
      exact hA2.only hO3 (hlow _ hl.1) (hlow _ hl.2.1) (hlow _ hl.2.2)
    · rintro (q | q)
      · omega
      · have := hob _ q; omega
    · rintro (q | q)
      · omega
      · exact row_not_own c2 (by decide) hrow1 q
    · rintro (q | q)
      · omega
      · exact row_not_own c3 (by decide) hrow1 q
    · refine only_high (hT.o.trans HO2.out) (hO3.mono fun k q => ?_) (B := w.heap.size) (Nat.le_refl _)
      rcases q with q | q
      · omega
      · have := hob k q; omega
  case done =>
    rintro D ys W hD hy ⟨⟨v, hv, hrow, -⟩, hT⟩ hK
    subst hy
    have hc := hv.cell
    have hf := hv.frozen
    have HT := Lib.hid hT
    have HROW := Lib.hid hrow
    clear hT hrow
    gi_wp2
    refine ⟨by simp, .inl ⟨_, _, rfl, run_takeDeferred hK, ?_⟩⟩
    have hp := putObj_high W D (.deferred none) (B := U.heap.size) (by simpa using hD)
    have hT := HT.out.high HL.out (by omega) (Nat.le_of_eq hnU) hp
    have hr := ownsRow_putObj HROW.out (.deferred none) hK rfl
    refine ⟨_, results_tmp rfl _ _ _, v, rfl, ?_, hT.at_, hT.o⟩
    have h2 : ys.length = (ys.map fun x : Nat => (x : Int)).length := by simp
    have h3 : ic ys = (ys.map fun x : Nat => (x : Int)).map (Value.int .i64) := by simp [ic]
    rw [h2, h3] at hr
    exact (Lst.of_own hr).mono fun g hg => by omega
end Go.Proofs.Ytelnembjcgkiaaa
