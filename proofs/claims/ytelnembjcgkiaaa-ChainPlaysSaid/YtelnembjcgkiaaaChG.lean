/- Chains at keys of two numbers: Total. -/
import Derived.Test.YtelnembjcgkiaaaChF
namespace Go.Proofs.Ytelnembjcgkiaaa
open Go.RowKit
set_option linter.unusedVariables false
set_option linter.unusedSimpArgs false

section
variable {κ : Type} [DecidableEq κ]
theorem ofK_cons (p : κ × Nat) (L : List (κ × Nat)) (k : κ) : (ofK (p :: L) k).length = (ofK L k).length + if p.1 = k then 1 else 0 := by
  unfold ofK
  rw [List.filter_cons]
  by_cases h : p.1 = k
  · simp [h]
  · simp [h]
theorem sum_some (f : κ → Nat) (k0 : κ) : ∀ Ks : List κ, Ks.Nodup → (Ks.map fun k => f k + if k0 = k then 1 else 0).sum = (Ks.map f).sum + if k0 ∈ Ks then 1 else 0
  | [], _ => by simp
  | k :: r, h => by
    rw [List.nodup_cons] at h
    simp only [List.map_cons, List.sum_cons, sum_some f k0 r h.2, List.mem_cons]
    by_cases e : k0 = k
    · subst e
      simp [h.1]
      omega
    · simp [e]
      omega
theorem sum_keys : ∀ (L : List (κ × Nat)) (Ks : List κ), Ks.Nodup → (Ks.map fun k => (ofK L k).length).sum ≤ L.length ∧ ((∀ p ∈ L, p.1 ∈ Ks) → (Ks.map fun k => (ofK L k).length).sum = L.length)
  | [], Ks, _ => by
    have : (Ks.map fun k => (ofK ([] : List (κ × Nat)) k).length) = Ks.map fun _ => 0 := rfl
    rw [this]
    have h0 : ∀ l : List κ, (l.map fun _ => 0).sum = 0 := fun l => by induction l <;> simp_all
    rw [h0]
    simp
  | p :: L, Ks, h => by
    obtain ⟨h1, h2⟩ := sum_keys L Ks h
    have e : (Ks.map fun k => (ofK (p :: L) k).length) = Ks.map fun k => (ofK L k).length + if p.1 = k then 1 else 0 := List.map_congr_left fun k _ => ofK_cons p L k
    rw [e, sum_some (fun k => (ofK L k).length) p.1 Ks h]
    rw [List.length_cons]
    refine ⟨by split <;> omega, fun hc => ?_⟩
    rw [if_pos (hc p (by simp)), h2 fun q hq => hc q (List.mem_cons_of_mem _ hq)]
theorem valL_mem {L : List (Ent κ)} (hn : (L.map (·.1)).Nodup) {p : Ent κ} (hp : p ∈ L) : valL p.1 L = some p.2.1 := by
  induction L with
  | nil => cases hp
  | cons q r ih =>
    rw [List.map_cons, List.nodup_cons] at hn
    rw [valL_cons]
    rcases List.mem_cons.1 hp with rfl | hp
    · rw [if_pos rfl]
    · rw [if_neg (fun e => hn.1 (List.mem_map.2 ⟨p, hp, e⟩)), ih hn.2 hp]
end
def sumD (L : List ((Int × Int) × Nat)) (done : List (Ent (Int × Int))) : Nat := (done.map fun p => (ofK L p.1).length).sum
theorem sumD_eq (L : List ((Int × Int) × Nat)) (done : List (Ent (Int × Int))) : sumD L done = ((done.map (·.1)).map fun k => (ofK L k).length).sum := by
  unfold sumD
  rw [List.map_map]
  rfl
theorem sumD_snoc (L : List ((Int × Int) × Nat)) (done : List (Ent (Int × Int))) (e : Ent (Int × Int)) : sumD L (done ++ [e]) = sumD L done + (ofK L e.1).length := by
  unfold sumD
  rw [List.map_append, List.sum_append]
  simp
theorem keys_nodup {M done : List (Ent (Int × Int))} {c : Nat} (ok : MapOk M c) (hs : ∀ p ∈ done, p ∈ M) (hn : done.Nodup) : (done.map (·.1)).Nodup := by
  induction done with
  | nil => exact List.nodup_nil
  | cons x r ih =>
    rw [List.nodup_cons] at hn
    rw [List.map_cons, List.nodup_cons]
    refine ⟨fun hx => ?_, ih (fun p hp => hs p (List.mem_cons_of_mem _ hp)) hn.2⟩
    obtain ⟨y, hy, e⟩ := List.mem_map.1 hx
    have := inj_of_map ok.keys (hs y (List.mem_cons_of_mem _ hy)) (hs x (by simp)) e
    exact hn.1 (this ▸ hy)
theorem sumD_le {M done : List (Ent (Int × Int))} {c : Nat} (L : List ((Int × Int) × Nat)) (ok : MapOk M c) (hs : ∀ p ∈ done, p ∈ M) (hn : done.Nodup) : sumD L done ≤ L.length := by
  rw [sumD_eq]
  exact (sum_keys L _ (keys_nodup ok hs hn)).1
theorem ent_val {w : World} {b bm bl n : Nat} {L : List ((Int × Int) × Nat)} {lk : Nat → Lk (Int × Int)} {M : List (Ent (Int × Int))} {c cp : Nat} (q : ChIn w b bm bl n cp L lk M c) {e : Ent (Int × Int)} (he : e ∈ M) : ∃ x y : Int, e.2.1 = .agg #[.int .i64 x, .int .i64 y, .int .i64 ((ofK L e.1).length : Int)] ∧ 0 < (ofK L e.1).length := by
  have h := valL_mem q.ok.keys he
  rw [q.v] at h
  unfold headV at h
  split at h
  · cases h
  · injection h with h
    rename_i hne
    exact ⟨_, _, h.symm, List.length_pos_iff.2 hne⟩
theorem sum_all {w : World} {b bm bl n : Nat} {L : List ((Int × Int) × Nat)} {lk : Nat → Lk (Int × Int)} {M done : List (Ent (Int × Int))} {c cp : Nat} (q : ChIn w b bm bl n cp L lk M c) (h : done.Perm M) : sumD L done = L.length := by
  rw [sumD_eq]
  have hk : ((done.map (·.1)).Perm (M.map (·.1))) := h.map _
  refine (sum_keys L _ (hk.nodup_iff.2 q.ok.keys)).2 fun p hp => hk.mem_iff.2 ?_
  apply Classical.byContradiction
  intro hn
  have h0 : valL p.1 M = none := valL_none.2 fun e he e2 => hn (List.mem_map.2 ⟨e, he, e2⟩)
  rw [q.v] at h0
  have hne : ofK L p.1 ≠ [] := fun e => by
    have : p.2 ∈ ofK L p.1 := mem_ofK.2 hp
    rw [e] at this; cases this
  unfold headV at h0
  rw [if_neg hne] at h0
  cases h0
set_option maxHeartbeats 8000000 in
set_option maxRecDepth 100000 in
theorem total_any (b bm bl n : Nat) (L : List ((Int × Int) × Nat)) (lk : Nat → Lk (Int × Int)) (w : World) (hA : ChAt w b bm bl n L lk) (hn : L.length ≤ 4096) :
    Calls Try.prog 14 #[.pointer (some ⟨b, 0, none⟩)] w fun e w' => e = .returned (.int .i64 (L.length : Int)) ∧ Below w.heap.size w w' := by
  obtain ⟨M, c, cp, q⟩ := hA
  have r0 : w.cell? ⟨b, 0, none⟩ = some (.map (some bm)) := q.row.cell (i := 0) rfl
  have HQ := Lib.hid q
  obtain ⟨N, hN⟩ : ∃ N : Int, (L.length : Int) = N := ⟨_, rfl⟩
  have HN := Lib.hid hN
  have HLN := Lib.hid hn
  rw [hN]
  clear q hN hn
  go_enter Try.func14, Try.ntmps14
  go_wp2_with (at_range; refine wpList_range_at rfl (.tmp 11) 58 28 65 rfl Try.underlying58 rfl HQ.out.m ?_; intro w1 hit hb1; go_frame)
  have HI := Lib.hid hit
  have HB1 := Lib.hid hb1
  clear hit hb1
  go_loopw [3] (fun v wr => ∃ done : List (Ent (Int × Int)), v = .int .i64 (sumD L done : Int) ∧ IterAt wr w.heap.size bm c M done ∧ Below w.heap.size w wr) (fun v _ => L.length - (intOf v).toNat)
  case atStart => exact ⟨[], rfl, HI.out, HB1.out⟩
  case round =>
    obtain ⟨done, rfl, hit, hB⟩ := hrel
    have HIT := Lib.hid hit
    have HB := Lib.hid hB
    clear hit hB
    go_wp2_with (at_next; refine wpList_next_at rfl (.tmp 12) rfl rfl ((HQ.out.m).ext HB.out) HQ.out.ok HIT.out ?_ ?_)
    · intro hperm
      have hs := sum_all HQ.out hperm
      have HS := Lib.hid hs
      clear hperm hs
      go_wp2_with fail
      go_ret
      exact ⟨ret_int (by rw [HS.out]; exact HN.out), HB.out⟩
    · intro k1 k2 u st hin hnin w2 hit2 ho2 hen
      obtain ⟨x, y, hu, hpos⟩ := ent_val (e := ((k1, k2), u, st)) HQ.out hin
      have hu' : u = .agg #[.int .i64 x, .int .i64 y, .int .i64 ((ofK L (k1, k2)).length : Int)] := hu
      clear hu
      subst hu'
      unfold ek at hen
      have hle := sumD_le L HQ.out.ok hit2.sub (nodup_of_map hit2.nd)
      rw [sumD_snoc] at hle
      have hle' : sumD L done + (ofK L (k1, k2)).length ≤ L.length := hle
      have hB2 := Only.below HB.out ho2 (fun k hk => by omega) HB.out.size
      have w1 : wrap64 ((sumD L done : Int) + ((ofK L (k1, k2)).length : Int)) = (sumD L done : Int) + ((ofK L (k1, k2)).length : Int) := by have := HLN.out; unfold wrap64; omega
      have hpos' : 0 < (ofK L (k1, k2)).length := hpos
      have HP := Lib.hid (And.intro hle' hpos')
      have HB2 := Lib.hid hB2
      have HIT2 := Lib.hid hit2
      clear hle hle' hB2 hit2 ho2 hin hnin hpos hpos'
      go_wp2_with fail
      go_roundw
      case measure =>
        have h1 := HP.out.1
        have h2 := HP.out.2
        rw [w1]
        simp only [intOf]
        clear w1
        omega
      case rel =>
        refine ⟨done ++ [((k1, k2), .agg #[.int .i64 x, .int .i64 y, .int .i64 ((ofK L (k1, k2)).length : Int)], st)], ?_, HIT2.out.ext (below_new (Below.refl _ _) _), below_new HB2.out _⟩
        rw [sumD_snoc, w1]
        rfl
end Go.Proofs.Ytelnembjcgkiaaa
