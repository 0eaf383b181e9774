/- A pool, cleared. -/
import Derived.Test.YtelnembjcgkiaaaDoorPoN
namespace Go.Proofs.YtelnembjcgkiaaaDoor
open Go.RowKit
set_option linter.unusedVariables false
set_option linter.unusedSimpArgs false
open Go.Shelf Go.Lib Go.Sort
/-- q is p without the entries at D. -/
structure Gone (p q : Po) (D : List Int) : Prop where
  room : q.room = p.room
  ok : q.ok
  tk : ∀ y : Nat, q.tk y = (p.tk y && !decide ((y : Int) ∈ D))
  old : ∀ y : Int, q.old y = p.old y + if y ∈ D then 1 else 0
theorem Gone.start {p : Po} (ok : p.ok) : Gone p p [] := ⟨rfl, ok, fun y => by simp, fun y => by simp⟩
theorem Gone.step {p q : Po} {D : List Int} {x : Nat} (h : Gone p q D) (hn : (x : Int) ∉ D) (hold : ∀ y, p.old y + 1 < 1000000000) : Gone p (q.drop x) (D ++ [(x : Int)]) where
  room := h.room
  ok := drop_ok h.ok x (by rw [h.old, if_neg hn]; exact hold _)
  tk y := by
    rw [drop_tk, h.tk]
    by_cases e : y = x
    · subst e; simp
    · rw [if_neg e]
      have : ((y : Int) ∈ D ++ [(x : Int)]) ↔ (y : Int) ∈ D := by
        simp only [List.mem_append, List.mem_singleton]
        constructor
        · rintro (q | q)
          · exact q
          · exact absurd (Int.ofNat.inj q) e
        · exact Or.inl
      simp only [this]
  old y := by
    have ho := h.old y
    show (if y = (x : Int) then q.old y + 1 else q.old y) = _
    by_cases e : y = (x : Int)
    · subst e
      rw [if_pos rfl, ho, if_neg hn, if_pos (by simp)]
    · rw [if_neg e, ho]
      have : (y ∈ D ++ [(x : Int)]) ↔ y ∈ D := by simp [e]
      simp only [this]
theorem own_u64 {w : World} {base n : Nat} {s : Value} {xs : List Value} (h : w.ownsRow base 23 1 s n xs) (h0 : 0 < n) :
    ∃ g cap, s = .slice (some ⟨g, 0, none⟩) n cap ∧ base ≤ g ∧ g < w.heap.size ∧ ∀ i x, xs[i]? = some x → w.cell? ⟨g, i, none⟩ = some x := by
  obtain ⟨h1, h2 | ⟨g, cap, cur, hv, hb, hg, hn, hm, hs, ht⟩⟩ := h
  · exact absurd h2.2 (by omega)
  · refine ⟨g, cap, hv, hb, block_lt hg, fun i x hx => ?_⟩
    have hi : i < n := by
      rcases Nat.lt_or_ge i xs.length with q | q
      · omega
      · rw [List.getElem?_eq_none q] at hx; cases hx
    rw [cell_of_row w g i cur 23 (0, 0) hg, ← Array.getElem?_toList]
    have e1 : (cur.toList.take (n * 1))[i]? = cur.toList[i]? := by rw [List.getElem?_take, if_pos (by omega)]
    rw [← e1, ht, hx]
set_option maxHeartbeats 8000000 in
set_option maxRecDepth 100000 in
theorem clear_any (b be bo bt : Nat) (p : Po) (w : World) (hA : PoAt w b be bo bt p) (ok : p.ok) (hold : ∀ y, p.old y + 1 < 1000000000) :
    Calls Tryd.prog 16 #[.pointer (some ⟨b, 0, none⟩)] w fun e w' => e = .returned (.int .i64 p.cnt) ∧ (∃ q S, PoAt w' b be bo bt q ∧ Gone p q S ∧ Places p S) ∧ Only (S3 be bo bt) w w' := by
  have hlt : be < w.heap.size ∧ bo < w.heap.size ∧ bt < w.heap.size := by
    obtain ⟨M1, c1, M2, c2, ws, q⟩ := hA
    exact ⟨q.m1.lt, q.m2.lt, q.row3.lt⟩
  have HA := Lib.hid hA
  have HOLD := Lib.hid hold
  clear hA hold
  obtain ⟨N, hN⟩ : ∃ N : Int, (p.cnt : Int) = N := ⟨_, rfl⟩
  rw [hN]
  go_enter Tryd.func16, Tryd.ntmps16
  go_upto_region 2 with (go_at_call 28; refine (handles_any b be bo bt p _ HA.out ok).mono ?_; rintro e w1 ⟨S, v, rfl, hP, hO, hb1⟩)
  obtain ⟨sa, cap, rfl⟩ := own_slice hO
  have HP := Lib.hid hP
  have HO := Lib.hid hO
  have HA1 := Lib.hid (HA.out.ext hb1)
  have HB1 := Lib.hid hb1
  have hSl : S.length ≤ 4096 := by
    have h1 := hP.len
    have h2 := cntB_le p.tk p.room
    have h3 := ok.r2
    unfold Po.cnt at h1
    omega
  have hcnt : (S.length : Int) = N := by rw [← hN, hP.len]
  have HCN := Lib.hid hcnt
  clear hP hO hb1 HA hcnt hN
  go_upto_region 3 with fail
  go_loopw [10] (fun iv wr => ∃ (i : Nat) (q : Po), i ≤ S.length ∧ iv = .int .i64 i ∧ PoAt wr b be bo bt q ∧ Gone p q (S.take i) ∧ Only (S3 be bo bt) w1 wr) (fun iv _ => S.length - (intOf iv).toNat)
  case atStart => exact ⟨0, p, by omega, rfl, HA1.out, Gone.start ok, Only.refl _ _⟩
  case round =>
    obtain ⟨i, q, hi, rfl, hA, hG, hOn⟩ := hrel
    have HA := Lib.hid hA
    have HG := Lib.hid hG
    have HON := Lib.hid hOn
    clear hA hG hOn
    by_cases hl : i < S.length
    · obtain ⟨g, cap', hae, hg0, hg1, hcell⟩ := own_u64 HO.out (by omega)
      injection hae with e1 e2 e3
      subst e1 e3
      clear e2
      obtain ⟨x, hx⟩ : ∃ x, S[i]? = some x := ⟨_, List.getElem?_eq_getElem hl⟩
      have hxm := List.mem_of_getElem? hx
      have hxs := (HP.out.mem x).1 hxm
      have hxr := ok.inr x hxs
      obtain ⟨X, rfl⟩ : ∃ X : Nat, (X : Int) = x := ⟨x.toNat, by omega⟩
      have hnd : (X : Int) ∉ S.take i := by
        intro hm
        have hnd := HP.out.nd
        have hsp : S = S.take i ++ S.drop i := (List.take_append_drop i S).symm
        rw [hsp, List.nodup_append] at hnd
        have hdr : (X : Int) ∈ S.drop i := by
          rw [List.mem_iff_getElem?]
          exact ⟨0, by rw [List.getElem?_drop, Nat.add_zero]; exact hx⟩
        exact hnd.2.2 _ hm _ hdr rfl
      have hXr : X < q.room := by rw [HG.out.room]; omega
      have htk : q.tk X = true := by
        rw [HG.out.tk, show p.tk X = true from hxs]
        simp [hnd]
      have hhv : hv p (X : Int) = hv q (X : Int) := by
        unfold hv
        rw [HG.out.old, if_neg hnd, Nat.add_zero]
      have c5 : wr.cell? ⟨g, i, none⟩ = some (.int .u64 (hv q (X : Int))) := by
        rw [← hhv]
        exact cell_only (hcell i _ (by rw [List.getElem?_map, hx]; rfl)) HON.out (by unfold S3; dsimp only; omega)
      have t0 : decide ((i : Int) < (S.length : Int)) = true := dec_t (by omega)
      have w64 : wrap64 ((i : Int) + 1) = (i : Int) + 1 := by unfold wrap64; omega
      have HGS := Lib.hid (HG.out.step hnd HOLD.out)
      have HXX := Lib.hid hx
      clear hcell hg0 hg1 hx hxm hxs hxr hnd hhv
      go_wp2_with (go_at_call 10; refine (drop_yes b be bo bt q _ HA.out HG.out.ok X hXr htk).mono ?_; rintro e w2 ⟨rfl, hA2, hO2⟩)
      go_roundw
      case measure => simp only [intOf]; omega
      case rel =>
        refine ⟨i + 1, q.drop X, by omega, by simp, hA2, ?_, HON.out.trans hO2⟩
        have e : S.take (i + 1) = S.take i ++ [(X : Int)] := by
          first | rw [List.take_add_one, HXX.out] | rw [List.take_succ, HXX.out]
          rfl
        rw [e]
        exact HGS.out
    · obtain rfl : i = S.length := by omega
      have t0 : decide ((S.length : Int) < (S.length : Int)) = false := dec_f (by omega)
      go_wp2_with fail
      go_ret
      have h1 := HG.out
      rw [List.take_length] at h1
      exact ⟨ret_int HCN.out, ⟨q, S, HA.out, h1, HP.out⟩, (only_of HB1.out _).trans HON.out⟩
end Go.Proofs.YtelnembjcgkiaaaDoor
