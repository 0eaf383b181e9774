/- The document's places of a pool (plain). -/
import Derived.Test.YtelnembjcgkiaaaDoorPoZb
import Derived.Test.YtelnembjcgkiaaaDoorPoO
import Derived.Test.YtelnembjcgkiaaaDoorPoS
namespace Go.Proofs.YtelnembjcgkiaaaDoor
open Go.RowKit
set_option linter.unusedVariables false
set_option linter.unusedSimpArgs false

def ptOf (p : Po) (x : Nat) : Pt := ((p.old (x : Int) : Int) + 1, (p.ent (x : Int)).isSome, (p.ent (x : Int)).getD (0, 0, 0))
def pts (p : Po) : List Pt := (List.range p.room).map (ptOf p)
theorem pts_len (p : Po) : (pts p).length = p.room := by unfold pts; simp
theorem pts_get {p : Po} {x : Nat} (h : x < (pts p).length) : (pts p)[x] = ptOf p x :=
  (List.getElem_map (f := ptOf p) (l := List.range p.room) (i := x) (h := h)).trans (by rw [List.getElem_range])
theorem pts_upd {p q : Po} {x : Nat} (hr : q.room = p.room) (h : ∀ y : Nat, y ≠ x → ptOf q y = ptOf p y) (P : Pt) (hP : ptOf q x = P) : pts q = (pts p).set x P := by
  apply List.ext_getElem?
  intro i
  rw [List.getElem?_set]
  unfold pts
  rw [List.getElem?_map, List.getElem?_map, hr, List.length_map, List.length_range]
  by_cases hi : i < p.room
  · rw [List.getElem?_range hi]
    by_cases hx : x = i
    · subst hx; rw [if_pos rfl, if_pos hi, Option.map_some, hP]
    · rw [if_neg hx]
      simp [h i (fun e => hx e.symm)]
  · rw [List.getElem?_eq_none (by simpa using hi), Option.map_none]
    by_cases hx : x = i
    · subst hx; rw [if_pos rfl, if_neg hi]
    · rw [if_neg hx]
      rfl
theorem pts_put (p : Po) (x : Nat) (e : Int × Int × Int) : pts (p.put x e) = (pts p).set x (takePt (ptOf p x) e) := by
  refine pts_upd (p := p) (q := p.put x e) (x := x) rfl (fun y hy => ?_) _ ?_
  · unfold ptOf Po.put
    dsimp only
    rw [if_neg (by omega)]
  · unfold ptOf takePt Po.put
    dsimp only
    rw [if_pos rfl]
    rfl
theorem pts_drop (p : Po) (x : Nat) : pts (p.drop x) = (pts p).set x (dropPt (ptOf p x)) := by
  refine pts_upd (p := p) (q := p.drop x) (x := x) rfl (fun y hy => ?_) _ ?_
  · unfold ptOf Po.drop
    dsimp only
    rw [if_neg (by omega), if_neg (by omega)]
  · unfold ptOf dropPt Po.drop
    dsimp only
    rw [if_pos rfl, if_pos rfl]
    simp
theorem pts_set (p : Po) (x : Nat) (e : Int × Int × Int) (ht : p.tk x = true) : pts (p.set x e) = (pts p).set x (setPt (ptOf p x) e) := by
  refine pts_upd (p := p) (q := p.set x e) (x := x) rfl (fun y hy => ?_) _ ?_
  · unfold ptOf Po.set
    dsimp only
    rw [if_neg (by omega)]
  · unfold ptOf setPt Po.set
    dsimp only
    rw [if_pos rfl]
    have h : (p.ent (x : Int)).isSome = true := ht
    rw [h]
    rfl
theorem pts_new (r : Nat) : pts (Po.new r) = List.replicate r zpt := by
  have h : ∀ n, (List.range n).map (ptOf (Po.new r)) = List.replicate n zpt := fun n => by
    rw [List.eq_replicate_iff]
    refine ⟨by simp, fun b hb => ?_⟩
    obtain ⟨x, -, rfl⟩ := List.mem_map.1 hb
    rfl
  exact h r
theorem pts_eq {p q : Po} (hr : q.room = p.room) (h : ∀ y : Nat, ptOf q y = ptOf p y) : pts q = pts p := by
  unfold pts
  rw [hr]
  exact List.map_congr_left fun y _ => h y
theorem pts_bound {p : Po} (ok : p.ok) : ∀ q ∈ pts p, 0 ≤ q.1 ∧ q.1 ≤ 1000000000 := by
  intro q hq
  unfold pts at hq
  obtain ⟨x, -, rfl⟩ := List.mem_map.1 hq
  have := ok.old x
  unfold ptOf
  dsimp only
  omega
/-- The document's handles are those of the places, rising. -/
theorem hnd_pts (p : Po) (S : List Int) (hS : Places p S) (ok : p.ok) : hnd 0 (pts p) = S.map (hv p) := by
  have h1 : ∀ n, hnd 0 ((List.range n).map (ptOf p)) = ((List.range n).filter p.tk).map (fun x : Nat => hv p (x : Int)) := fun n => by
    induction n with
    | zero => rfl
    | succ n ih =>
      rw [List.range_succ, List.map_append, List.map_cons, List.map_nil, hnd_snoc, ih, List.filter_append, List.map_append, List.length_map, List.length_range, Nat.zero_add]
      congr 1
      by_cases ht : p.tk n = true
      · rw [if_pos (show (ptOf p n).2.1 = true from ht), List.filter_cons, if_pos ht]
        rfl
      · rw [if_neg (show ¬ (ptOf p n).2.1 = true from ht), List.filter_cons, if_neg ht]
        rfl
  have h2 : S = ((List.range p.room).filter p.tk).map (fun x : Nat => (x : Int)) := by
    have hnd : (((List.range p.room).filter p.tk).map (fun x : Nat => (x : Int))).Pairwise (· < ·) := by
      rw [List.pairwise_map]
      exact (List.pairwise_lt_range.filter _).imp (by intro a b h; omega)
    refine List.Perm.eq_of_pairwise (le := (· ≤ ·)) (fun a b _ _ h1 h2 => Int.le_antisymm h1 h2) hS.srt (hnd.imp (by intro a b h; omega)) ?_
    rw [List.perm_ext_iff_of_nodup hS.nd (hnd.imp (by intro a b h; omega))]
    intro a
    rw [hS.mem, List.mem_map]
    constructor
    · intro ha
      have := ok.inr a ha
      refine ⟨a.toNat, ?_, by omega⟩
      rw [List.mem_filter, List.mem_range]
      refine ⟨by omega, ?_⟩
      unfold Po.tk
      rw [show ((a.toNat : Nat) : Int) = a by omega]
      exact ha
    · rintro ⟨x, hx, rfl⟩
      exact (List.mem_filter.1 hx).2
  unfold pts
  rw [h1, h2, List.map_map]
  rfl
/-- Where a handle is found. -/
theorem find_pts (p : Po) (h : Int) (h0 : 0 ≤ h) (t : Nat) (he : h % 4096 = (t : Int)) (ht : t < (pts p).length) : ((pts p)[t].2.1 = true ∧ (pts p)[t].1 = h / 4096) ↔ (findI p h).2 = true := by
  rw [pts_get]
  unfold findI ptOf hv
  dsimp only
  rw [he, Bool.and_eq_true, beq_iff_eq]
  constructor
  · rintro ⟨h1, h2⟩
    exact ⟨h1, by omega⟩
  · rintro ⟨h1, h2⟩
    exact ⟨h1, by omega⟩
theorem find_out (p : Po) (ok : p.ok) (h : Int) (hl : (p.room : Int) ≤ h % 4096) : (findI p h).2 = false := by
  unfold findI
  dsimp only
  cases hq : p.ent (h % 4096) with
  | none => rfl
  | some e => have := ok.inr (h % 4096) (by rw [hq]; rfl); omega
theorem find_hv (p : Po) (x : Nat) (hx : x < 4096) (ht : p.tk x = true) : hv p (x : Int) % 4096 = (x : Int) ∧ (findI p (hv p (x : Int))).2 = true := by
  have h : hv p (x : Int) % 4096 = (x : Int) := by unfold hv; omega
  refine ⟨h, ?_⟩
  unfold findI
  dsimp only
  rw [h]
  have : (p.ent (x : Int)).isSome = true := ht
  rw [this]
  simp
theorem hv_range (p : Po) (ok : p.ok) (x : Nat) (hx : x < 4096) : 0 ≤ hv p (x : Int) ∧ hv p (x : Int) ≤ 18446744073709551615 := by
  have := ok.old x
  unfold hv
  omega
set_option maxHeartbeats 8000000 in
set_option maxRecDepth 100000 in
theorem rfind_po (p : Po) (ok : p.ok) (v : Value) (okb : Nat → Prop) (w : World) (hv : Sl w v (pts p).length (fl5 (pts p)) okb) (h : Int) (h0 : 0 ≤ h) (h1 : h ≤ 18446744073709551615) :
    Calls Tryd.prog 19 #[v, .int .u64 h] w fun e w' => e = .returned (.int .i64 (if (findI p h).2 = true then h % 4096 else -1)) ∧ Below w.heap.size w w' := by
  have hl : (pts p).length ≤ 4096 := by rw [pts_len]; exact ok.r2
  obtain ⟨t, ht⟩ : ∃ t : Nat, h % 4096 = (t : Int) := ⟨(h % 4096).toNat, by omega⟩
  by_cases hi : t < (pts p).length
  · refine (rfind_at (pts p) v okb w hv hl h h0 h1 t ht hi).mono ?_
    rintro e w' ⟨rfl, hb⟩
    refine ⟨?_, hb⟩
    have hf := find_pts p h h0 t ht hi
    rw [ht]
    by_cases hq : (findI p h).2 = true
    · rw [if_pos (hf.2 hq), if_pos hq]
    · rw [if_neg (fun q => hq (hf.1 q)), if_neg hq]
  · refine (rfind_out (pts p) v okb w hv hl h h0 h1 t ht (by omega)).mono ?_
    rintro e w' ⟨rfl, hb⟩
    refine ⟨?_, hb⟩
    rw [find_out p ok h (by rw [ht]; rw [pts_len] at hi; omega), if_neg (by simp)]
end Go.Proofs.YtelnembjcgkiaaaDoor
