/- BusApart: eight files on a bus, and what each call makes of them. -/
import Derived.Test.YtgkklgebgabncaaBuK
namespace Go.Proofs.Ytgkklgebgabncaa
open Go.RowKit
set_option linter.unusedVariables false
set_option linter.unusedSimpArgs false
open Go.Lib Go.Sort
def fileS (a : Int) : Fm := fun k => if k = 4 then some ⟨a, 0, 4294967295, 0⟩ else none
theorem put_fileS (a : Int) : Fm.put (fun _ => none) 4 ⟨a, 0, 4294967295, 0⟩ = fileS a := by
  funext k
  unfold Fm.put fileS
  rfl
theorem find_fileS (a : Int) : findE (fileS a) 4 = 0 ∧ findV (fileS a) 4 = ⟨a, 0, 4294967295, 0⟩ := ⟨rfl, rfl⟩
theorem sto_fileS (a v : Int) (a0 : 0 ≤ a) (a1 : a ≤ 4294967295) (v0 : 0 ≤ v) (v1 : v ≤ 4294967295) : stoE (fileS a) 4 = 0 ∧ stoL (fileS a) 4 v = fileS v := by
  have h1 : onlyB (findV (fileS a) 4) = false := by rw [(find_fileS a).2]; show (bits .or .u32 4294967295 0 == 0) = false; decide
  have h2 : stoE (fileS a) 4 = 0 := by
    unfold stoE
    rw [if_pos (find_fileS a).1, if_neg (by rw [h1]; decide)]
  refine ⟨h2, ?_⟩
  unfold stoL
  rw [if_pos h2, (find_fileS a).2]
  funext k
  unfold Fm.put fileS stoV
  by_cases h : k = 4
  · rw [if_pos h, if_pos h]
    dsimp only
    rw [storeI_full a v a0 a1 v0 v1]
  · rw [if_neg h, if_neg h, if_neg h]
def pv (f : Nat) : Value := .pointer (some ⟨f, 0, none⟩)
def rgA (j : Nat) : Int × Int := (64 * (j : Int), 16)
/-- The bus has the first k regions, with the files F. -/
structure BuK8 (w : World) (b bm k : Nat) (F : Nat → Nat) (M : Rn) (c : Nat) : Prop where
  at' : BuAt w b bm M c
  ok : BuOk M
  len : M.length = k
  of : ∀ q ∈ M, ∃ j, j < k ∧ q.1 = rgA j ∧ q.2.1 = devV (F j)
  on : ∀ j, j < k → ∃ q ∈ M, q.1 = rgA j ∧ q.2.1 = devV (F j)
structure Ap (w0 : World) (b bm base k : Nat) (F G : Nat → Nat) (s : Value) (wr : World) (n : Nat) : Prop where
  bu : ∃ M c, BuK8 wr b bm n F M c
  fi : ∀ j, j < n → FiAt wr (F j) (G j) (fileS j)
  lo : ∀ j, j < n → base ≤ F j ∧ base ≤ G j
  ord : ∀ i j, i < j → j < n → F i < F j ∧ F i < G j ∧ G i < F j ∧ G i < G j
  ow : wr.ownsRow base 23 1 s k ((List.range k).map fun j => pv (F j))
  far : ∀ j, j < n → some (F j) ≠ s.ownBlock ∧ some (G j) ≠ s.ownBlock
  bel : Below w0.heap.size w0 wr
def up (F : Nat → Nat) (k f : Nat) : Nat → Nat := fun j => if j = k then f else F j
theorem up_at (F : Nat → Nat) (k f : Nat) : up F k f k = f := by simp [up]
theorem up_lt (F : Nat → Nat) {k f j : Nat} (h : j < k) : up F k f j = F j := by simp [up]; omega
theorem att_ap {M : Rn} {k : Nat} {F : Nat → Nat} (hl : M.length = k) (hk : k < 8) (ho : ∀ q ∈ M, ∃ j, j < k ∧ q.1 = rgA j ∧ q.2.1 = devV (F j)) : attE M (rgA k) = 0 := by
  unfold attE rgA
  rw [if_neg (by dsimp only; omega), if_neg (by dsimp only; omega), if_neg (by omega), if_neg]
  rw [List.any_eq_true]
  rintro ⟨p, hp, hm⟩
  obtain ⟨j, hj, e, _⟩ := ho p hp
  rw [e] at hm
  unfold meetB endI rgA at hm
  rw [decide_eq_true_eq] at hm
  dsimp only at hm
  omega
theorem r32A {k : Nat} (hk : k < 8) : R32 (rgA k) := ⟨by unfold rgA; dsimp only; omega, by unfold rgA; dsimp only; omega, by unfold rgA; dsimp only; omega, by unfold rgA; dsimp only; omega⟩
/-- Behind a new file, its register, and its region. -/
theorem Ap.step {w0 wr w2 w3 w4 : World} {b bm base k f fm : Nat} {F G : Nat → Nat} {s : Value} {M : Rn} {c c4 : Nat} (h : Ap w0 b bm base k F G s wr k) (hk : k < 8)
    (hb : b < base) (hbm : bm < base) (hw0 : w0.heap.size ≤ bm) (hB : BuK8 wr b bm k F M c)
    (hf : wr.heap.size ≤ f) (hfm : wr.heap.size ≤ fm) (h2 : Below wr.heap.size wr w2) (hF : FiAt w3 f fm (fileS k)) (h3 : Only (· = fm) w2 w3)
    (hA : BuAt w4 b bm (attM M c (rgA k) (devV f)) c4) (h4 : Only (· = bm) w3 w4) (hlt : base ≤ wr.heap.size) :
    Ap w0 b bm base k (up F k f) (up G k fm) s w4 (k + 1) := by
  have hO : Only (fun g => g = fm ∨ g = bm) wr w4 := ((only_of h2 _).trans (h3.mono fun g e => Or.inl e)).trans (h4.mono fun g e => Or.inr e)
  have hatt := att_ap hB.len hk hB.of
  have hnew := att_new (r32A hk) hatt
  have hM : attM M c (rgA k) (devV f) = M ++ [(rgA k, devV f, c)] := by unfold attM; rw [if_pos hatt, updL_new hnew.1]
  rw [hM] at hA
  have low := h.lo
  have hfl : ∀ j, j < k → F j < wr.heap.size ∧ G j < wr.heap.size := fun j hj => (h.fi j hj).lt
  have hown : ∀ g, s.ownBlock = some g → base ≤ g ∧ g < wr.heap.size := fun g hg => ownsRow_base h.ow g hg
  have hrow : (List.range k).map (fun j => pv (up F k f j)) = (List.range k).map fun j => pv (F j) := by
    apply List.map_congr_left
    intro j hj
    rw [up_lt F (List.mem_range.1 hj)]
  refine ⟨⟨_, c4, hA, ?_, ?_, ?_, ?_⟩, ?_, ?_, ?_, ?_, ?_, ?_⟩
  · exact hM ▸ hB.ok.att (r32A hk)
  · rw [List.length_append, hB.len]; rfl
  · intro q hq
    rcases List.mem_append.1 hq with hq | hq
    · obtain ⟨j, hj, e1, e2⟩ := hB.of q hq
      exact ⟨j, by omega, e1, by rw [e2, up_lt F hj]⟩
    · simp only [List.mem_singleton] at hq
      subst hq
      exact ⟨k, by omega, rfl, by rw [up_at]⟩
  · intro j hj
    rcases Nat.lt_or_ge j k with q | q
    · obtain ⟨p, hp, e1, e2⟩ := hB.on j q
      exact ⟨p, List.mem_append.2 (.inl hp), e1, by rw [e2, up_lt F q]⟩
    · obtain rfl : j = k := by omega
      exact ⟨(rgA j, devV f, c), List.mem_append.2 (.inr (List.mem_singleton.2 rfl)), rfl, by rw [up_at]⟩
  · intro j hj
    rcases Nat.lt_or_ge j k with q | q
    · rw [up_lt F q, up_lt G q]
      have := hfl j q
      have := low j q
      exact (h.fi j q).only hO (by omega) (by omega)
    · obtain rfl : j = k := by omega
      rw [up_at, up_at]
      exact hF.only h4 (by omega) (by omega)
  · intro j hj
    rcases Nat.lt_or_ge j k with q | q
    · rw [up_lt F q, up_lt G q]; exact low j q
    · obtain rfl : j = k := by omega
      rw [up_at, up_at]; omega
  · intro i j hij hj
    have hi : i < k := by omega
    rw [up_lt F hi, up_lt G hi]
    rcases Nat.lt_or_ge j k with q | q
    · rw [up_lt F q, up_lt G q]; exact h.ord i j hij q
    · obtain rfl : j = k := by omega
      rw [up_at, up_at]
      have := hfl i hi
      omega
  · rw [hrow]
    exact ownsRow_only h.ow hO (fun g hg => by have := hown g hg; omega)
  · intro j hj
    rcases Nat.lt_or_ge j k with q | q
    · rw [up_lt F q, up_lt G q]; exact h.far j q
    · obtain rfl : j = k := by omega
      rw [up_at, up_at]
      refine ⟨fun e => ?_, fun e => ?_⟩
      · have := hown f e.symm; omega
      · have := hown fm e.symm; omega
  · exact Only.below h.bel hO (fun g hg => by rcases hg with rfl | rfl; have := h.bel.size; omega; exact hw0) h.bel.size
/-- Behind the file's coming to the list. -/
theorem Ap.app {w0 w4 w5 : World} {b bm base k : Nat} {F G : Nat → Nat} {s s' : Value} (h : Ap w0 b bm base k F G s w4 (k + 1)) (hb : b < base) (hbm : bm < base) (hw0 : w0.heap.size ≤ base)
    (how : w5.ownsRow base 23 1 s' (k + 1) (((List.range k).map fun j => pv (F j)) ++ [pv (F k)])) (hO4 : Only (fun g => some g = s.ownBlock) w4 w5) (hat : s'.ownBlock = s.ownBlock ∨ ∃ g, w4.heap.size ≤ g ∧ s'.ownBlock = some g) :
    Ap w0 b bm base (k + 1) F G s' w5 (k + 1) := by
  have hown : ∀ g, s.ownBlock = some g → base ≤ g ∧ g < w4.heap.size := fun g hg => ownsRow_base h.ow g hg
  obtain ⟨M, c, hB⟩ := h.bu
  refine ⟨⟨M, c, ?_, hB.ok, hB.len, hB.of, hB.on⟩, ?_, h.lo, h.ord, ?_, ?_, ?_⟩
  · exact { hB.at' with row := hB.at'.row.only hO4 (fun e => by have := hown b e.symm; omega), m := hB.at'.m.only hO4 (fun e => by have := hown bm e.symm; omega) }
  · intro j hj
    exact (h.fi j hj).only hO4 (h.far j hj).1 (h.far j hj).2
  · rw [List.range_succ, List.map_append]
    exact how
  · intro j hj
    rcases hat with e | ⟨g, hg, e⟩
    · rw [e]; exact h.far j hj
    · rw [e]
      have := (h.fi j hj).lt
      refine ⟨fun q => ?_, fun q => ?_⟩
      · injection q with q; omega
      · injection q with q; omega
  · exact Only.below h.bel hO4 (fun g hg => by have := hown g hg.symm; omega) h.bel.size
end Go.Proofs.Ytgkklgebgabncaa
