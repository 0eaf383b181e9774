/- The document's pool: Put. -/
import Derived.Test.YtelnembjcgkiaaaDoorPoZc
namespace Go.Proofs.YtelnembjcgkiaaaDoor
open Go.RowKit
set_option linter.unusedVariables false
set_option linter.unusedSimpArgs false

theorem AllReadyH.store {P : Program} {ops : Array Oper} {Q : Exit → Act → World → Prop} {md : Region.Mode} {S : World → Prop} {fuel : Nat} {listed : Array Bool} {a : Act} {w : World} {i : Nat} {o : Oper} (ho : ops[i]? = some o) (hw : Region.wanted o (yielded ops a.tmps) = true)
    (ty : TypeId) (x y : Operand) (hop : o.op = .store ty x y)
    (g off : Nat) (v : Value) (vs : List Value) (hx : a.eval x = .pointer (some ⟨g, off, none⟩)) (hy : a.eval y = v) (hv0 : v.cells = vs.toArray) (hi : (P.info? ty).map (·.size) = some vs.length)
    (t : TypeId) (l l' : List Value) (hg : w.heap[g]? = some (.cells l.toArray t (0, 0)))
    (hl : off + vs.length ≤ l.length) (h1 : ∀ u ∈ vs, u.oneCell' = true) (hl' : l.take off ++ vs ++ l.drop (off + vs.length) = l') (hS : S (w.setRow g l'.toArray))
    (h : S (w.setRow g l'.toArray) → wpAnyH P md ops Q S fuel (listed.setIfInBounds i true) (a.put o.dst undef) (w.setRow g l'.toArray)) : AllReadyH P md ops Q S fuel listed a w [i] := by
  refine AllReadyH.cons ho (fun K hK => ?_) AllReadyH.nil
  rw [if_pos hw]
  have hs := run_storeCells_part (P := P) g off t vs 0 l w hg (by omega) h1
  simp only [Nat.add_zero] at hs
  have hv : (storeVar ty ⟨g, off, none⟩ v).run P w = .ok () (w.setRow g l'.toArray) := by
    cases hq : P.info? ty with
    | none => simp [hq] at hi
    | some i =>
      have hsz : vs.length = i.size := by simp [hq] at hi; omega
      rw [← hl']
      simp [storeVar, sizeOf, typeInfo, hq, hv0, hsz, hs]
      try (rw [hsz] at hs; exact hs)
  unfold Oper.wp execOp
  simp only [hop, hx, hy, Instr.storeAt, Instr.sureAddr, Sem.run_bind, Sem.run_pure, Result.andThen_ok, hv]
  exact hK.out _ _ hS h
theorem info_b : (Tryd.prog.info? 4 ).map (·.size) = some 1 := by kernel_rfl
theorem all_tk5 {L : List Pt} {t : Nat} (h : ∀ y (h : y < L.length), y < t → L[y].2.1 = true) (ht : t < L.length) (h2 : L[t].2.1 = true) : ∀ y (h : y < L.length), y < t + 1 → L[y].2.1 = true := by
  intro y hy hlt
  by_cases e : y = t
  · subst e; exact h2
  · exact h y hy (by omega)
set_option maxHeartbeats 8000000 in
set_option maxRecDepth 100000 in
theorem rput_no (L : List Pt) (v : Value) (ok : Nat → Prop) (w : World) (hv : Sl w v L.length (fl5 L) ok) (hL : L.length ≤ 4096) (e1 e2 e3 : Int) (hall : ∀ y (h : y < L.length), L[y].2.1 = true) :
    Calls Tryd.prog 20 #[v, .agg #[.int .u64 e1, .int .u64 e2, .int .u64 e3]] w fun e w' => e = .returned (.tuple #[v, .int .u64 0, .bool false]) ∧ Below w.heap.size w w' := by
  have HV := Lib.hid hv
  have HL0 := Lib.hid (lenL hL)
  have HL4 := Lib.hid hL
  have HA := Lib.hid hall
  clear hall
  obtain ⟨W, hW⟩ : ∃ W, w.alloc (.cells #[.int .u64 e1, .int .u64 e2, .int .u64 e3] 53 ) = W := ⟨_, rfl⟩
  have hbW : Below w.heap.size w W := hW ▸ below_new (Below.refl _ _) _
  have hXW : RowAt W w.heap.size #[.int .u64 e1, .int .u64 e2, .int .u64 e3] 53 := hW ▸ RowAt.new w _ _
  have HX := Lib.hid hXW
  have HBW := Lib.hid hbW
  obtain ⟨a, cap, rfl, hc1, hc2, hcell⟩ := hv
  have HC := Lib.hid hcell
  obtain ⟨len, hlen⟩ : ∃ n : Nat, L.length = n := ⟨_, rfl⟩
  have HL := Lib.hid hlen
  rw [hlen] at hc1 hL ⊢
  clear hcell hlen hc1 hc2 hbW hXW
  go_enter Tryd.func20, Tryd.ntmps20
  go_wp2_with fail
  clear hW
  go_loopw [7] (fun z wr => ∃ t : Nat, z = .int .i64 t ∧ t ≤ len ∧ (∀ y (h : y < L.length), y < t → L[y].2.1 = true) ∧ W = wr) (fun z _ => len - (intOf z).toNat)
  case atStart => exact ⟨0, rfl, by omega, by intro y _ h; omega, by first | rfl | trivial⟩
  case round =>
    obtain ⟨t, rfl, ht, hno, rfl⟩ := hrel
    have HNO := Lib.hid hno
    clear hno
    by_cases hlt : t < len
    · have d1 : decide ((t : Int) < (len : Int)) = true := dec_t (by omega)
      obtain ⟨g, rfl, hg, _, hcl⟩ := HC.out (by rw [HL.out]; omega)
      have htl : t < L.length := by rw [HL.out]; exact hlt
      obtain ⟨⟨gn, tk, px⟩, hp⟩ : ∃ p, L[t] = p := ⟨_, rfl⟩
      have hq1 : W.cell? ⟨g, t * 5 + 1, none⟩ = some (.bool tk) := (HBW.out.cell (p := ⟨g, t * 5 + 1, none⟩) hg).trans (hcl _ _ (fl5_get htl hp (c := 1) rfl))
      have hti : (t : Int) < (len : Int) := by omega
      have ht0 : (0 : Int) ≤ (t : Int) := by omega
      have HP := Lib.hid hp
      have w1 := wrap_succ (show t ≤ 1000000 by omega)
      clear hcl hp
      have htk : tk = true := by have := HA.out t htl; rw [HP.out] at this; exact this
      subst htk
      go_wp2_with fail
      go_roundw
      case measure => exact step_lt hlt
      case rel => exact ⟨t + 1, by simp, by omega, all_tk5 HNO.out htl (by rw [HP.out]), by first | rfl | trivial⟩
    · obtain rfl : t = len := by omega
      have d1 : decide ((t : Int) < (t : Int)) = false := dec_f (by omega)
      go_wp2_with fail
      refine bodyPost_ret (v := .tuple #[.slice a t cap, .int .u64 0, .bool false]) (by simp [results, Tryd.results20, go_sem]) rfl ⟨rfl, HBW.out⟩
theorem one1c (b : Bool) : ∀ v ∈ [Value.bool b], v.oneCell' = true := by
  intro v hp
  simp only [List.mem_cons, List.not_mem_nil, or_false] at hp
  subst hp
  rfl
theorem box_cells {X : World} {k : Nat} {t : TypeId} {e1 e2 e3 : Int} (h : RowAt X k #[.int .u64 e1, .int .u64 e2, .int .u64 e3] t) : X.cell? ⟨k, 0, none⟩ = some (.int .u64 e1) ∧ X.cell? ⟨k, 1, none⟩ = some (.int .u64 e2) ∧ X.cell? ⟨k, 2, none⟩ = some (.int .u64 e3) := ⟨h.cell (i := 0) rfl, h.cell (i := 1) rfl, h.cell (i := 2) rfl⟩
set_option maxHeartbeats 8000000 in
set_option maxRecDepth 100000 in
theorem rput_yes (L : List Pt) (v : Value) (ok : Nat → Prop) (w : World) (hv : Sl w v L.length (fl5 L) ok) (hL : L.length ≤ 4096) (e1 e2 e3 : Int) (x : Nat) (hx : x < L.length) (hall : ∀ y (h : y < L.length), y < x → L[y].2.1 = true) (P : Pt) (hP : L[x] = P) (hf : P.2.1 = false) (g0 : 0 ≤ P.1) (g1 : P.1 ≤ 1000000000) :
    Calls Tryd.prog 20 #[v, .agg #[.int .u64 e1, .int .u64 e2, .int .u64 e3]] w fun e w' => ∃ u, e = .returned (.tuple #[u, .int .u64 (P.1 * 4096 + x), .bool true]) ∧ Sl w' u (L.set x (takePt P (e1, e2, e3))).length (fl5 (L.set x (takePt P (e1, e2, e3)))) (fun g => w.heap.size ≤ g) ∧ Below w.heap.size w w' := by
  have HV := Lib.hid hv
  have HL0 := Lib.hid (lenL hL)
  have HL4 := Lib.hid hL
  have HA := Lib.hid hall
  have HXL := Lib.hid hx
  have HPP := Lib.hid hP
  have HF := Lib.hid hf
  have HG := Lib.hid (And.intro g0 g1)
  clear hall hP hf g0 g1
  obtain ⟨W, hW⟩ : ∃ W, w.alloc (.cells #[.int .u64 e1, .int .u64 e2, .int .u64 e3] 53 ) = W := ⟨_, rfl⟩
  have hbW : Below w.heap.size w W := hW ▸ below_new (Below.refl _ _) _
  have hXW : RowAt W w.heap.size #[.int .u64 e1, .int .u64 e2, .int .u64 e3] 53 := hW ▸ RowAt.new w _ _
  have HX := Lib.hid hXW
  have HBW := Lib.hid hbW
  obtain ⟨a, cap, rfl, hc1, hc2, hcell⟩ := hv
  have HC := Lib.hid hcell
  obtain ⟨len, hlen⟩ : ∃ n : Nat, L.length = n := ⟨_, rfl⟩
  have HL := Lib.hid hlen
  rw [hlen] at hc1 hL ⊢
  clear hcell hlen hc1 hc2 hbW hXW
  go_enter Tryd.func20, Tryd.ntmps20
  go_wp2_with fail
  clear hW
  go_loopw [7] (fun z wr => ∃ t : Nat, z = .int .i64 t ∧ t ≤ len ∧ (∀ y (h : y < L.length), y < t → L[y].2.1 = true) ∧ W = wr) (fun z _ => len - (intOf z).toNat)
  case atStart => exact ⟨0, rfl, by omega, by intro y _ h; omega, by first | rfl | trivial⟩
  case round =>
    obtain ⟨t, rfl, ht, hno, rfl⟩ := hrel
    have HNO := Lib.hid hno
    clear hno
    by_cases hlt : t < len
    · have d1 : decide ((t : Int) < (len : Int)) = true := dec_t (by omega)
      obtain ⟨g, rfl, hg, _, hcl⟩ := HC.out (by rw [HL.out]; omega)
      have htl : t < L.length := by rw [HL.out]; exact hlt
      obtain ⟨⟨gn, tk, px⟩, hp⟩ : ∃ p, L[t] = p := ⟨_, rfl⟩
      have hq1 : W.cell? ⟨g, t * 5 + 1, none⟩ = some (.bool tk) := (HBW.out.cell (p := ⟨g, t * 5 + 1, none⟩) hg).trans (hcl _ _ (fl5_get htl hp (c := 1) rfl))
      have hti : (t : Int) < (len : Int) := by omega
      have ht0 : (0 : Int) ≤ (t : Int) := by omega
      have HP := Lib.hid hp
      have w1 := wrap_succ (show t ≤ 1000000 by omega)
      clear hcl hp
      cases tk with
      | true =>
        go_wp2_with fail
        go_roundw
        case measure => exact step_lt hlt
        case rel => exact ⟨t + 1, by simp, by omega, all_tk5 HNO.out htl (by rw [HP.out]), by first | rfl | trivial⟩
      | false =>
        have hxt : t = x := by
          have h1 : ¬ t < x := fun h => by have := HA.out t htl h; rw [HP.out] at this; cases this
          have h2 : ¬ x < t := fun h => by have := HNO.out x HXL.out h; rw [HPP.out, HF.out] at this; cases this
          omega
        subst hxt
        have HPQ := Lib.hid (show P = (gn, false, px) by rw [← HPP.out, HP.out])
        have HV1 := Lib.hid (HV.out.ext HBW.out)
        have HLM := Lib.hid (show (fl5 L).length = len * 5 by rw [fl5_len, HL.out])
        rw [HL.out] at HV1 HL0
        go_upto_region 6 with (at_builtin; refine wpList_append_l rfl (.tmp 21) (.tmp 22) 46 rfl W.heap.size 58 5 40 Tryd.underlying46 (by kernel_rfl) (by decide) (by decide) _ 0 [] rfl (own_empty5 W 58 5 (Nat.le_refl _)) _ len (fl5 L) rfl (slice_eq5 (HV1.out.ext (below_new (Below.refl _ _) _))) HLM.out (fl5_one L) HL0.out (below_new (Below.refl W.heap.size W) _).size ?_; intro v' w2 hown' ho' _; have HO2 := Lib.hid hown'; have HB2 := Lib.hid (Only.below (below_new (Below.refl W.heap.size W) _) ho' (fun k hk => by have hk' : some k = some W.heap.size := hk; injection hk' with hk'; omega) (below_new (Below.refl W.heap.size W) _).size); clear hown' ho')
        have HO3 := HO2.out
        rw [Nat.zero_add, List.nil_append] at HO3
        obtain ⟨q, cq, Z, rfl, hq, hn, hm, hrow⟩ := own_row5 HO3 (by omega)
        have HBB := Lib.hid (below_then HBW.out HB2.out)
        have HQN := Lib.hid (show L.length ≤ cq ∧ cq ≤ maxLen by rw [HL.out]; exact And.intro hn hm)
        have HR := Lib.hid (show RowAt w2.drew q (fl5 L ++ Z).toArray 58 from hrow)
        have HQ0 := Lib.hid (show w.heap.size ≤ q from Nat.le_trans HBW.out.size hq)
        have HLE := Lib.hid (take5 (Z := Z) htl)
        have HX2 := Lib.hid (show RowAt w2.drew w.heap.size #[.int .u64 e1, .int .u64 e2, .int .u64 e3] 53 from (RowAt.ext HX.out HB2.out).drew)
        have HNE := Lib.hid (show w.heap.size ≠ q by have := HX.out.lt; omega)
        have hsp1 := fl5_splice htl (gn, true, px) 1 [.bool true] Z (by simp) (by rw [HP.out]; rfl)
        have hl1 : t < (L.set t (gn, true, px)).length := by rw [List.length_set]; exact htl
        have hsp2 := fl5_splice hl1 (gn, true, e1, e2, e3) 2 [.int .u64 e1, .int .u64 e2, .int .u64 e3] Z (by simp) (by rw [List.getElem_set_self]; rfl)
        rw [List.set_set] at hsp2
        have HR2 := Lib.hid (show RowAt (w2.drew.setRow q (fl5 (L.set t (gn, true, px)) ++ Z).toArray) q (fl5 (L.set t (gn, true, px)) ++ Z).toArray 58 from RowAt.setRow HR.out _)
        have HSP1 := Lib.hid hsp1
        have HLE2 := Lib.hid (take5 (Z := Z) hl1)
        have HSP2 := Lib.hid hsp2
        clear hrow HO3 HO2 HB2 HV1 hq hsp1 hsp2 hl1 hm
        refine wp_region_held_drew (S := (fun w' => w'.cell? ⟨w.heap.size, 0, none⟩ = some (.int .u64 e1) ∧ w'.cell? ⟨w.heap.size, 1, none⟩ = some (.int .u64 e2) ∧ w'.cell? ⟨w.heap.size, 2, none⟩ = some (.int .u64 e3))) (by kernel_rfl) (box_cells HX2.out) (fun hHeld => ?_)
        refine' wpAnyH_take (i := 0) (v := ?v1) rfl (by kernel_rfl) (by kernel_rfl) (by kernel_rfl) (fun _ _ _ h => h) (Or.inl ⟨by rfl, ?hy1⟩) hHeld ?rest1
        case hy1 => (intro w hSw; (try dsimp only at hSw); go_simp; try with_reducible rfl)
        try simp only [Act.put, List.getElem_toArray, List.getElem_cons_succ, List.getElem_cons_zero, List.setIfInBounds_toArray, List.set_cons_zero, List.set_cons_succ]
        refine' wpAnyH_take (i := 1) (v := ?v2) rfl (by kernel_rfl) (by kernel_rfl) (by kernel_rfl) (fun _ _ _ h => h) (Or.inl ⟨by rfl, ?hy2⟩) hHeld ?rest2
        case hy2 => (intro w hSw; (try dsimp only at hSw); go_simp; try with_reducible rfl)
        try simp only [Act.put, List.getElem_toArray, List.getElem_cons_succ, List.getElem_cons_zero, List.setIfInBounds_toArray, List.set_cons_zero, List.set_cons_succ]
        refine' wpAnyH_take (i := 2) (v := ?v3) rfl (by kernel_rfl) (by kernel_rfl) (by kernel_rfl) (fun _ _ _ h => h) (Or.inl ⟨by rfl, ?hy3⟩) hHeld ?rest3
        case hy3 => (intro w hSw; (try dsimp only at hSw); go_simp; try with_reducible rfl)
        try simp only [Act.put, List.getElem_toArray, List.getElem_cons_succ, List.getElem_cons_zero, List.setIfInBounds_toArray, List.set_cons_zero, List.set_cons_succ]
        refine' wpAnyH_take (i := 3) (v := ?v4) rfl (by kernel_rfl) (by kernel_rfl) (by kernel_rfl) (fun _ _ _ h => h) (Or.inl ⟨by rfl, ?hy4⟩) hHeld ?rest4
        case hy4 => (intro w hSw; (try dsimp only at hSw); go_simp; try with_reducible rfl)
        try simp only [Act.put, List.getElem_toArray, List.getElem_cons_succ, List.getElem_cons_zero, List.setIfInBounds_toArray, List.set_cons_zero, List.set_cons_succ]
        refine' wpAnyH_take (i := 4) (v := ?v5) rfl (by kernel_rfl) (by kernel_rfl) (by kernel_rfl) (fun _ _ _ h => h) (Or.inl ⟨by rfl, ?hy5⟩) hHeld ?rest5
        case hy5 => (intro w hSw; (try dsimp only at hSw); go_simp; try with_reducible rfl)
        try simp only [Act.put, List.getElem_toArray, List.getElem_cons_succ, List.getElem_cons_zero, List.setIfInBounds_toArray, List.set_cons_zero, List.set_cons_succ]
        refine' wpAnyH_take (i := 5) (v := ?v6) rfl (by kernel_rfl) (by kernel_rfl) (by kernel_rfl) (fun _ _ _ h => h) (Or.inl ⟨by rfl, ?hy6⟩) hHeld ?rest6
        case hy6 => (intro w hSw; (try dsimp only at hSw); go_simp; try with_reducible rfl)
        try simp only [Act.put, List.getElem_toArray, List.getElem_cons_succ, List.getElem_cons_zero, List.setIfInBounds_toArray, List.set_cons_zero, List.set_cons_succ]
        refine' wpAnyH_take (i := 6) (v := ?v7) rfl (by kernel_rfl) (by kernel_rfl) (by kernel_rfl) (fun _ _ _ h => h) (Or.inl ⟨by rfl, ?hy7⟩) hHeld ?rest7
        case hy7 => (intro w hSw; (try dsimp only at hSw); go_simp; try with_reducible rfl)
        try simp only [Act.put, List.getElem_toArray, List.getElem_cons_succ, List.getElem_cons_zero, List.setIfInBounds_toArray, List.set_cons_zero, List.set_cons_succ]
        refine wpAnyH_ready (rs := [7]) (by kernel_rfl) (by simp) ?_
        refine AllReadyH.store rfl (by kernel_rfl) 4 (.tmp 30) (.const (.bool true)) rfl q (t * 5 + 1) (.bool true) [.bool true] rfl rfl rfl info_b 58 (fl5 L ++ Z) (fl5 (L.set t (gn, true, px)) ++ Z) HR.out (Nat.le_trans (by simp) HLE.out) (one1c true) HSP1.out (box_cells (RowAt.setRow_other HX2.out HNE.out _)) (fun hHeld => ?_)
        try simp only [Act.put, List.getElem_toArray, List.getElem_cons_succ, List.getElem_cons_zero, List.setIfInBounds_toArray, List.set_cons_zero, List.set_cons_succ]
        refine' wpAnyH_take (i := 8) (v := ?v8) rfl (by kernel_rfl) (by kernel_rfl) (by kernel_rfl) (fun _ _ _ h => h) (Or.inl ⟨by rfl, ?hy8⟩) hHeld ?rest8
        case hy8 => (intro w hSw; (try dsimp only at hSw); go_simp; try with_reducible rfl)
        try simp only [Act.put, List.getElem_toArray, List.getElem_cons_succ, List.getElem_cons_zero, List.setIfInBounds_toArray, List.set_cons_zero, List.set_cons_succ]
        refine' wpAnyH_take (i := 9) (v := ?v9) rfl (by kernel_rfl) (by kernel_rfl) (by kernel_rfl) (fun _ _ _ h => h) (Or.inl ⟨by rfl, ?hy9⟩) hHeld ?rest9
        case hy9 => (intro w hSw; (try dsimp only at hSw); go_simp; try with_reducible rfl)
        try simp only [Act.put, List.getElem_toArray, List.getElem_cons_succ, List.getElem_cons_zero, List.setIfInBounds_toArray, List.set_cons_zero, List.set_cons_succ]
        refine wpAnyH_ready (rs := [10]) (by kernel_rfl) (by simp) ?_
        refine AllReadyH.store rfl (by kernel_rfl) 53 (.tmp 32) (.tmp 28) rfl q (t * 5 + 2) (.agg #[.int .u64 e1, .int .u64 e2, .int .u64 e3]) [.int .u64 e1, .int .u64 e2, .int .u64 e3] rfl rfl rfl info_e 58 (fl5 (L.set t (gn, true, px)) ++ Z) (fl5 (L.set t (gn, true, e1, e2, e3)) ++ Z) HR2.out (Nat.le_trans (by simp) HLE2.out) (one3c _ _ _) HSP2.out (box_cells (RowAt.setRow_other (RowAt.setRow_other HX2.out HNE.out _) HNE.out _)) (fun hHeld => ?_)
        try simp only [Act.put, List.getElem_toArray, List.getElem_cons_succ, List.getElem_cons_zero, List.setIfInBounds_toArray, List.set_cons_zero, List.set_cons_succ]
        refine wpAnyH_done (by kernel_rfl) ?_ _
        dsimp only [Exit.then]
        obtain ⟨L2, hL2⟩ : ∃ l, l = L.set t (gn, true, e1, e2, e3) := ⟨_, rfl⟩
        refine k_name (Pr := fun W' => Sl W' (.slice (some ⟨q, 0, none⟩) len cq) L2.length (fl5 L2) (fun g => w.heap.size ≤ g) ∧ Below w.heap.size w W') (by rw [hL2]; exact row_fin HR2.out rfl (by rw [List.length_set]; exact HL.out) (by simp) (by rw [List.length_set]; exact HQN.out) HQ0.out (But.below HBB.out ((But.refl q w2).drew.setRow _) HQ0.out HBB.out.size)) ?_
        rintro W3 ⟨hS3, hB3⟩
        have HS3 := Lib.hid hS3
        have HB3 := Lib.hid hB3
        have HL2 := Lib.hid hL2
        have hl2 : L2.length = len := by rw [hL2, List.length_set]; exact HL.out
        have HHD := Lib.hid (rhandle_any L2 _ _ W3 hS3 (by rw [hl2]; exact hL) t (by rw [hl2]; exact hlt) gn (by subst hL2; rw [List.getElem_set_self]) (by have := HG.out.1; rw [HPQ.out] at this; exact this) (by have := HG.out.2; rw [HPQ.out] at this; exact this))
        clear hS3 hB3 hL2 HR HR2 HSP2 HLE HLE2 hq1 w1
        go_at_K
        go_wp2_with (go_at_call 27; refine HHD.out.mono ?_; rintro e w4 ⟨rfl, hb4⟩)
        have hfin := HS3.out.ext hb4
        rw [HL2.out] at hfin
        have hto : takePt P (e1, e2, e3) = (gn, true, e1, e2, e3) := by rw [HPQ.out]; rfl
        refine bodyPost_ret (v := .tuple #[.slice (some ⟨q, 0, none⟩) len cq, .int .u64 (gn * 4096 + (t : Int)), .bool true]) (by simp [results, Tryd.results20, go_sem]) rfl ⟨_, ?_, by rw [hto]; exact hfin, below_then HB3.out hb4⟩
        rw [HPQ.out]
    · exfalso
      have h := HNO.out x HXL.out (by have h1 := HXL.out; have h2 := HL.out; omega)
      rw [HPP.out, HF.out] at h
      cases h
end Go.Proofs.YtelnembjcgkiaaaDoor
