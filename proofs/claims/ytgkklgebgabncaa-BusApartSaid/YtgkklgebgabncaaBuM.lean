/- BusApart: nine regions, stores, loads; the walk. -/
import Derived.Test.YtgkklgebgabncaaBuL
namespace Go.Proofs.Ytgkklgebgabncaa
open Go.RowKit
set_option linter.unusedVariables false
set_option linter.unusedSimpArgs false
open Go.Lib Go.Sort
structure Nine (w0 : World) (b bm : Nat) (F G : Nat → Nat) (X : Nat) (val : Nat → Int) (wr : World) : Prop where
  bu : ∃ M c, BuAt wr b bm M c ∧ BuOk M ∧ (∀ j : Nat, j < 8 → HasAt M (64 * (j : Int) + 4) (rgA j) (F j)) ∧ HasAt M 4100 (4096, 16) (F X)
  fi : ∀ j, j < 8 → FiAt wr (F j) (G j) (fileS (val j))
  bel : Below w0.heap.size w0 wr
/-- The files' blocks, apart. -/
structure Sep (b bm base : Nat) (F G : Nat → Nat) : Prop where
  lo : ∀ j, j < 8 → base ≤ F j ∧ base ≤ G j
  ord : ∀ i j, i < j → j < 8 → F i < F j ∧ F i < G j ∧ G i < F j ∧ G i < G j
  hb : b < base
  hbm : bm < base
theorem Sep.far {b bm base : Nat} {F G : Nat → Nat} (h : Sep b bm base F G) {i j : Nat} (hi : i < 8) (hj : j < 8) (hn : i ≠ j) : F j ≠ G i ∧ G j ≠ G i := by
  rcases Nat.lt_or_ge i j with q | q
  · have := h.ord i j q hj; omega
  · have := h.ord j i (by omega) hi; omega
theorem valL_mem {κ : Type} [DecidableEq κ] {L : List (Ent κ)} (hn : (L.map (·.1)).Nodup) {p : Ent κ} (hp : p ∈ L) : valL p.1 L = some p.2.1 := by
  induction L with
  | nil => cases hp
  | cons q r ih =>
    rw [List.map_cons, List.nodup_cons] at hn
    rw [valL_cons]
    rcases List.mem_cons.1 hp with rfl | hp
    · rw [if_pos rfl]
    · rw [if_neg (fun e => hn.1 (List.mem_map.2 ⟨p, hp, e⟩)), ih hn.2 hp]
theorem att_nine {M : Rn} {F : Nat → Nat} (hl : M.length = 8) (ho : ∀ q ∈ M, ∃ j, j < 8 ∧ q.1 = rgA j ∧ q.2.1 = devV (F j)) : attE M (4096, 16) = 0 := by
  unfold attE
  rw [if_neg (by decide), if_neg (by decide), if_neg (by omega), if_neg]
  rw [List.any_eq_true]
  rintro ⟨p, hp, hm⟩
  obtain ⟨j, hj, e, _⟩ := ho p hp
  rw [e] at hm
  unfold meetB endI rgA at hm
  rw [decide_eq_true_eq] at hm
  dsimp only at hm
  omega
theorem has_rgA {j i : Nat} (hj : j < 8) (hi : i < 8) : hasB (rgA j) (64 * (i : Int) + 4) = decide (j = i) := by
  unfold hasB meetB endI rgA
  by_cases h : j = i
  · subst h
    simp only [decide_true, decide_eq_true_eq]
    omega
  · rw [decide_eq_false h, decide_eq_false_iff_not]
    dsimp only
    omega
theorem has_far {j : Nat} (hj : j < 8) : hasB (rgA j) 4100 = false ∧ hasB (4096, 16) (64 * (j : Int) + 4) = false := by
  constructor
  · unfold hasB meetB endI rgA
    rw [decide_eq_false_iff_not]
    dsimp only
    omega
  · unfold hasB meetB endI
    rw [decide_eq_false_iff_not]
    dsimp only
    omega
theorem r32N : R32 (4096, 16) := ⟨by decide, by decide, by decide, by decide⟩
theorem Ap.nine {w0 wr w1 : World} {b bm base : Nat} {F G : Nat → Nat} {s : Value} {M : Rn} {c c1 X : Nat} (h : Ap w0 b bm base 8 F G s wr 8) (hB : BuK8 wr b bm 8 F M c) (hb : b < base) (hbm : bm < base) (hw0 : w0.heap.size ≤ bm)
    (hA : BuAt w1 b bm (attM M c (4096, 16) (devV (F X))) c1) (hO : Only (· = bm) wr w1) : Nine w0 b bm F G X (fun j => (j : Int)) w1 := by
  have hatt := att_nine hB.len hB.of
  have hM : attM M c (4096, 16) (devV (F X)) = M ++ [((4096, 16), devV (F X), c)] := by unfold attM; rw [if_pos hatt, updL_new (att_new r32N hatt).1]
  have hok : BuOk (M ++ [((4096, 16), devV (F X), c)]) := hM ▸ hB.ok.att (d := devV (F X)) (c := c) r32N
  rw [hM] at hA
  have hin : ∀ q, q ∈ M ++ [((4096, 16), devV (F X), c)] → (∃ j, j < 8 ∧ q.1 = rgA j ∧ q.2.1 = devV (F j)) ∨ (q.1 = (4096, 16) ∧ q.2.1 = devV (F X)) := by
    intro q hq
    rcases List.mem_append.1 hq with hq | hq
    · exact .inl (hB.of q hq)
    · simp only [List.mem_singleton] at hq; subst hq; exact .inr ⟨rfl, rfl⟩
  refine ⟨⟨_, c1, hA, hok, fun i hi => ⟨by omega, ?_, ?_, ?_⟩, ⟨by decide, ?_, by decide, ?_⟩⟩, fun j hj => ?_, Only.below h.bel hO (fun g hg => by omega) h.bel.size⟩
  · obtain ⟨p, hp, e1, e2⟩ := hB.on i hi
    have := valL_mem hA.ok.keys (List.mem_append.2 (.inl hp))
    rw [e1, e2] at this
    exact this
  · rw [has_rgA hi hi]; simp
  · intro q hq hh
    rcases hin q hq with ⟨j, hj, e1, _⟩ | ⟨e1, _⟩
    · rw [e1, has_rgA hj hi, decide_eq_true_eq] at hh
      rw [e1, hh]
    · rw [e1, (has_far hi).2] at hh; cases hh
  · exact valL_mem hA.ok.keys (p := ((4096, 16), devV (F X), c)) (List.mem_append.2 (.inr (List.mem_singleton.2 rfl)))
  · intro q hq hh
    rcases hin q hq with ⟨j, hj, e1, _⟩ | ⟨e1, _⟩
    · rw [e1, (has_far hj).1] at hh; cases hh
    · exact e1
  · have := h.lo j hj
    exact (h.fi j hj).only hO (by omega) (by omega)
theorem Nine.sto {w0 wr w1 : World} {b bm base : Nat} {F G : Nat → Nat} {X Y : Nat} {val : Nat → Int} {v : Int} (h : Nine w0 b bm F G X val wr) (hS : Sep b bm base F G) (hY : Y < 8) (hw0 : w0.heap.size ≤ base)
    (hF : FiAt w1 (F Y) (G Y) (fileS v)) (hO : Only (· = G Y) wr w1) : Nine w0 b bm F G X (fun j => if j = Y then v else val j) w1 := by
  obtain ⟨M, c, hA, h1, h2, h3⟩ := h.bu
  have hlo := hS.lo Y hY
  have hb := hS.hb
  have hbm := hS.hbm
  refine ⟨⟨M, c, hA.only hO (by omega) (by omega), h1, h2, h3⟩, fun j hj => ?_, Only.below h.bel hO (fun g hg => by omega) h.bel.size⟩
  by_cases e : j = Y
  · subst e
    rw [if_pos rfl]
    exact hF
  · rw [if_neg e]
    have := hS.far hY hj (Ne.symm e)
    exact (h.fi j hj).only hO this.1 this.2
theorem Nine.ext {w0 wr w1 : World} {b bm : Nat} {F G : Nat → Nat} {X : Nat} {val : Nat → Int} (h : Nine w0 b bm F G X val wr) (hb : Below wr.heap.size wr w1) : Nine w0 b bm F G X val w1 := by
  obtain ⟨M, c, hA, h1, h2, h3⟩ := h.bu
  exact ⟨⟨M, c, hA.ext hb, h1, h2, h3⟩, fun j hj => (h.fi j hj).ext hb, below_then h.bel hb⟩
theorem mod8 (a : Int) : ∃ k : Nat, k < 8 ∧ IntKind.u32.wrap ((IntKind.u64.wrap a).tmod 8) = (k : Int) := by
  have h0 : 0 ≤ IntKind.u64.wrap a := by rw [IntKind.wrap_u64]; omega
  have h : (IntKind.u64.wrap a).tmod 8 = IntKind.u64.wrap a % 8 := Int.tmod_eq_emod_of_nonneg h0
  rw [h]
  refine ⟨(IntKind.u64.wrap a % 8).toNat, by omega, ?_⟩
  rw [IntKind.wrap_u32]
  omega
set_option maxHeartbeats 8000000 in
set_option maxRecDepth 100000 in
theorem nine_load {w0 wr : World} {b bm : Nat} {F G : Nat → Nat} {X : Nat} {val : Nat → Int} (h : Nine w0 b bm F G X val wr) (j : Nat) (hj : j < 8) :
    Calls Try.prog 34 #[.pointer (some ⟨b, 0, none⟩), .int .u32 (64 * (j : Int) + 4)] wr fun e w' => e = .returned (.tuple #[.int .u32 (val j), .int .i64 0]) ∧ Below wr.heap.size wr w' := by
  obtain ⟨M, c, hA, h1, h2, h3⟩ := h.bu
  have e : 64 * (j : Int) + 4 - 64 * (j : Int) = 4 := by omega
  refine (bload_fi b bm M c (64 * (j : Int) + 4) (64 * (j : Int)) 16 (F j) (G j) (fileS (val j)) wr hA h1 (by omega) (by omega) (h2 j hj) (h.fi j hj)).mono ?_
  rintro e' w' ⟨rfl, hb⟩
  rw [e]
  exact ⟨rfl, hb⟩
set_option maxHeartbeats 8000000 in
set_option maxRecDepth 100000 in
theorem nine_two {w0 wr : World} {b bm : Nat} {F G : Nat → Nat} {X : Nat} {val : Nat → Int} (h : Nine w0 b bm F G X val wr) (hX : X < 8) :
    Calls Try.prog 34 #[.pointer (some ⟨b, 0, none⟩), .int .u32 4100] wr fun e w' => e = .returned (.tuple #[.int .u32 (val X), .int .i64 0]) ∧ Below wr.heap.size wr w' := by
  obtain ⟨M, c, hA, h1, h2, h3⟩ := h.bu
  refine (bload_fi b bm M c 4100 4096 16 (F X) (G X) (fileS (val X)) wr hA h1 (by decide) (by decide) h3 (h.fi X hX)).mono ?_
  rintro e' w' ⟨rfl, hb⟩
  exact ⟨rfl, hb⟩
set_option maxHeartbeats 8000000 in
set_option maxRecDepth 100000 in
theorem nine_sto {w0 wr : World} {b bm base : Nat} {F G : Nat → Nat} {X : Nat} {val : Nat → Int} (h : Nine w0 b bm F G X val wr) (hS : Sep b bm base F G) (hw0 : w0.heap.size ≤ base) (j : Nat) (hj : j < 8) (v : Int) (v0 : 0 ≤ v) (v1 : v ≤ 4294967295) (hv : 0 ≤ val j ∧ val j ≤ 4294967295) :
    Calls Try.prog 35 #[.pointer (some ⟨b, 0, none⟩), .int .u32 (64 * (j : Int) + 4), .int .u32 v] wr fun e w' => e = .returned (.int .i64 0) ∧ Nine w0 b bm F G X (fun i => if i = j then v else val i) w' := by
  obtain ⟨M, c, hA, h1, h2, h3⟩ := h.bu
  have e : 64 * (j : Int) + 4 - 64 * (j : Int) = 4 := by omega
  have hs := sto_fileS (val j) v hv.1 hv.2 v0 v1
  refine (bstore_fi b bm M c (64 * (j : Int) + 4) v (64 * (j : Int)) 16 (F j) (G j) (fileS (val j)) wr hA h1 (by omega) (by omega) (h2 j hj) (h.fi j hj)).mono ?_
  rintro e' w' ⟨rfl, hF, hO⟩
  rw [e] at hF ⊢
  rw [hs.2] at hF
  rw [hs.1]
  exact ⟨rfl, h.sto hS hj hw0 hF hO⟩
end Go.Proofs.Ytgkklgebgabncaa
