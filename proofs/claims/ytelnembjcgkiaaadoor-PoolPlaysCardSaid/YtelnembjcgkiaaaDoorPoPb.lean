/- The document's pool at a pool's places. -/
import Derived.Test.YtelnembjcgkiaaaDoorPoPa
namespace Go.Proofs.YtelnembjcgkiaaaDoor
open Go.RowKit
set_option linter.unusedVariables false
set_option linter.unusedSimpArgs false

theorem pts_le {p : Po} (ok : p.ok) : (pts p).length ≤ 4096 := by rw [pts_len]; exact ok.r2
theorem pts_lt {p : Po} {X : Nat} (h : X < p.room) : X < (pts p).length := by rw [pts_len]; exact h
theorem pt_bound {p : Po} (ok : p.ok) (X : Nat) : 0 ≤ (ptOf p X).1 ∧ (ptOf p X).1 ≤ 1000000000 := by
  have := ok.old X
  unfold ptOf
  dsimp only
  omega
set_option maxHeartbeats 8000000 in
set_option maxRecDepth 100000 in
theorem rdrop_pts (p : Po) (ok : p.ok) (v : Value) (okb : Nat → Prop) (w : World) (hV : Sl w v (pts p).length (fl5 (pts p)) okb) (X : Nat) (hX : X < p.room) (ht : p.tk X = true) :
    Calls Tryd.prog 21 #[v, .int .u64 (hv p (X : Int))] w fun e w' => ∃ u, e = .returned u ∧ Sl w' u (pts (p.drop X)).length (fl5 (pts (p.drop X))) (fun g => w.heap.size ≤ g) ∧ Below w.heap.size w w' := by
  obtain ⟨b0, b1⟩ := pt_bound ok X
  have h := rdrop_yes (pts p) v okb w hV (pts_le ok) (hv p (X : Int)) X (pts_lt hX) (ptOf p X) (pts_get (pts_lt hX)) b0 b1 (rfind_hv p ok v okb w hV X hX ht)
  rw [← pts_drop] at h
  exact h
set_option maxHeartbeats 8000000 in
set_option maxRecDepth 100000 in
theorem rset_pts (p : Po) (ok : p.ok) (v : Value) (okb : Nat → Prop) (w : World) (hV : Sl w v (pts p).length (fl5 (pts p)) okb) (X : Nat) (hX : X < p.room) (ht : p.tk X = true) (e1 e2 e3 : Int) :
    Calls Tryd.prog 22 #[v, .int .u64 (hv p (X : Int)), .agg #[.int .u64 e1, .int .u64 e2, .int .u64 e3]] w fun e w' => ∃ u, e = .returned u ∧ Sl w' u (pts (p.set X (e1, e2, e3))).length (fl5 (pts (p.set X (e1, e2, e3)))) (fun g => w.heap.size ≤ g) ∧ Below w.heap.size w w' := by
  have h := rset_yes (pts p) v okb w hV (pts_le ok) (hv p (X : Int)) X (pts_lt hX) (ptOf p X) (pts_get (pts_lt hX)) e1 e2 e3 (fun Z hZ => rfind_hv p ok v okb Z (hV.ext hZ) X hX ht)
  rw [← pts_set p X _ ht] at h
  exact h
set_option maxHeartbeats 8000000 in
set_option maxRecDepth 100000 in
theorem rput_full (p : Po) (ok : p.ok) (v : Value) (okb : Nat → Prop) (w : World) (hV : Sl w v (pts p).length (fl5 (pts p)) okb) (e1 e2 e3 : Int) (hf : ∀ y : Nat, y < p.room → p.tk y = true) :
    Calls Tryd.prog 20 #[v, .agg #[.int .u64 e1, .int .u64 e2, .int .u64 e3]] w fun e w' => e = .returned (.tuple #[v, .int .u64 0, .bool false]) ∧ Below w.heap.size w w' := by
  exact rput_no (pts p) v okb w hV (pts_le ok) e1 e2 e3 (fun y hy => by rw [pt_tk]; exact hf y (by rw [pts_len] at hy; exact hy))
set_option maxHeartbeats 8000000 in
set_option maxRecDepth 100000 in
theorem rput_pts (p : Po) (ok : p.ok) (v : Value) (okb : Nat → Prop) (w : World) (hV : Sl w v (pts p).length (fl5 (pts p)) okb) (e1 e2 e3 : Int) (x : Nat) (hx : x < p.room) (hf : p.tk x = false) (hl : ∀ y : Nat, y < x → p.tk y = true) :
    Calls Tryd.prog 20 #[v, .agg #[.int .u64 e1, .int .u64 e2, .int .u64 e3]] w fun e w' => ∃ u, e = .returned (.tuple #[u, .int .u64 (hv p (x : Int)), .bool true]) ∧ Sl w' u (pts (p.put x (e1, e2, e3))).length (fl5 (pts (p.put x (e1, e2, e3)))) (fun g => w.heap.size ≤ g) ∧ Below w.heap.size w w' := by
  obtain ⟨b0, b1⟩ := pt_bound ok x
  have h := rput_yes (pts p) v okb w hV (pts_le ok) e1 e2 e3 x (pts_lt hx) (fun y hy hyx => by rw [pt_tk]; exact hl y hyx) (ptOf p x) (pts_get (pts_lt hx)) hf b0 b1
  rw [← pts_put] at h
  exact h
set_option maxHeartbeats 8000000 in
set_option maxRecDepth 100000 in
theorem put_some (b be bo bt : Nat) (p : Po) (w : World) (hA : PoAt w b be bo bt p) (ok : p.ok) (hT : Tab w) (e1 e2 e3 : Int) :
    Calls Tryd.prog 9 #[.pointer (some ⟨b, 0, none⟩), .agg #[.int .u64 e1, .int .u64 e2, .int .u64 e3]] w fun e w' => ∃ v p', e = .returned v ∧ PoAt w' b be bo bt p' ∧ p'.ok ∧ (∀ y, p'.old y = p.old y) ∧ Only (S3 be bo bt) w w' := by
  rcases free_place p with hf | ⟨x, hx, hf, hl⟩
  · refine (put_full b be bo bt p w hA ok hT e1 e2 e3 hf).mono ?_
    rintro e w' ⟨rfl, hb⟩
    exact ⟨_, p, rfl, hA.ext hb, ok, fun _ => rfl, only_of hb _⟩
  · refine (put_free b be bo bt p w hA ok hT e1 e2 e3 x hx hf hl).mono ?_
    rintro e w' ⟨rfl, hA', ho⟩
    exact ⟨_, _, rfl, hA', put_ok ok x hx _, fun _ => rfl, ho⟩
theorem cntB_filter (f : Nat → Bool) (n : Nat) : ((List.range n).filter f).length = cntB f n := rfl
theorem places_ex {p : Po} (ok : p.ok) : ∃ S, Places p S := by
  have hnd : (((List.range p.room).filter p.tk).map (fun x : Nat => (x : Int))).Pairwise (· < ·) := by
    rw [List.pairwise_map]
    exact (List.pairwise_lt_range.filter _).imp (by intro a b h; omega)
  refine ⟨((List.range p.room).filter p.tk).map (fun x : Nat => (x : Int)), hnd.imp (by intro a b h; omega), by rw [List.length_map, cntB_filter]; rfl, fun a => ?_, hnd.imp (by intro a b h; omega)⟩
  rw [List.mem_map]
  constructor
  · rintro ⟨x, hx, rfl⟩
    exact (List.mem_filter.1 hx).2
  · intro ha
    have := ok.inr a ha
    refine ⟨a.toNat, ?_, by omega⟩
    rw [List.mem_filter, List.mem_range]
    refine ⟨by omega, ?_⟩
    unfold Po.tk
    rw [show ((a.toNat : Nat) : Int) = a by omega]
    exact ha
theorem gone_pts {p q q' : Po} {S S' : List Int} (h : Gone p q S) (h' : Gone p q' S') (hS : Places p S) (hS' : Places p S') : pts q' = pts q := by
  refine pts_eq (h'.room.trans h.room.symm) fun y => ?_
  have hm : ∀ z, z ∈ S ↔ z ∈ S' := fun z => (hS.mem z).trans (hS'.mem z).symm
  have h1 : q.old (y : Int) = q'.old (y : Int) := by
    rw [h.old, h'.old]
    by_cases hz : (y : Int) ∈ S
    · rw [if_pos hz, if_pos ((hm _).1 hz)]
    · rw [if_neg hz, if_neg (fun e => hz ((hm _).2 e))]
  have none_of : ∀ (r : Po) (D : List Int), Gone p r D → Places p D → r.ent (y : Int) = none := fun r D g hD => by
    have ht := g.tk y
    have : r.tk y = false := by
      rw [ht]
      cases hp : p.tk y with
      | false => rfl
      | true =>
        have : (y : Int) ∈ D := (hD.mem _).2 hp
        simp [this]
    unfold Po.tk at this
    cases he : r.ent (y : Int) with
    | none => rfl
    | some e => rw [he] at this; cases this
  unfold ptOf
  rw [h1, none_of q S h hS, none_of q' S' h' hS']
theorem gone_at {p q : Po} {S : List Int} (hS : Places p S) (ok : p.ok) {i : Nat} (hi : i < S.length) (h : Gone p q (S.take i)) : ∃ X : Nat, (S.map (hv p))[i]'(by rw [List.length_map]; exact hi) = hv q (X : Int) ∧ X < q.room ∧ q.tk X = true ∧ S[i] = (X : Int) ∧ (X : Int) ∉ S.take i := by
  have hm := (hS.mem S[i]).1 (List.getElem_mem hi)
  have hr := ok.inr _ hm
  obtain ⟨X, hX⟩ : ∃ X : Nat, S[i] = (X : Int) := ⟨S[i].toNat, by omega⟩
  have hn : (X : Int) ∉ S.take i := fun hin => by
    have hnd := hS.nd
    rw [← List.take_append_drop i S, List.nodup_append] at hnd
    refine hnd.2.2 (X : Int) hin (X : Int) ?_ rfl
    rw [List.drop_eq_getElem_cons hi, hX]
    exact List.mem_cons_self
  refine ⟨X, ?_, ?_, ?_, hX, hn⟩
  · rw [List.getElem_map, hX]
    unfold hv
    rw [h.old, if_neg hn, Nat.add_zero]
  · rw [h.room]; omega
  · rw [h.tk]
    have : p.tk X = true := by unfold Po.tk; rw [← hX]; exact hm
    rw [this]
    simp [hn]
end Go.Proofs.YtelnembjcgkiaaaDoor
