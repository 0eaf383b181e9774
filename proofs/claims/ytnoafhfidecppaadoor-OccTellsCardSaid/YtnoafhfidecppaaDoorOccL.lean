/- What is in one of several maps. -/
import Derived.Test.YtnoafhfidecppaaDoorOccK
namespace Go.Proofs.YtnoafhfidecppaaDoor
open Go.RowKit
set_option linter.unusedVariables false
set_option linter.unusedSimpArgs false

def orW (ms : Nat → Map8) (k : Nat) : Nat → Int
  | 0 => 0
  | n + 1 => bits .or .u64 (orW ms k n) ((ms n).at k)
theorem orW_range (ms : Nat → Map8) (k : Nat) : ∀ n, 0 ≤ orW ms k n ∧ orW ms k n ≤ 18446744073709551615
  | 0 => ⟨by simp [orW], by simp [orW]⟩
  | n + 1 => by
    obtain ⟨a0, a1⟩ := orW_range ms k n
    obtain ⟨b0, b1⟩ := (ms n).at_range k
    rw [orW, u64_or _ _ a0 (by omega) b0 (by omega)]
    have h1 : (orW ms k n).toNat < 2 ^ 64 := by omega
    have h2 : ((ms n).at k).toNat < 2 ^ 64 := by omega
    have := Nat.or_lt_two_pow h1 h2
    omega
def orL (ms : Nat → Map8) (n : Nat) : List Int := (List.range 8).map fun k => orW ms k n
def orM (ms : Nat → Map8) (n : Nat) : Map8 := mk8 (orL ms n) (by simp [orL]) fun x hx => by
  obtain ⟨k, _, rfl⟩ := List.mem_map.1 hx
  exact orW_range ms k n
theorem orM_at (ms : Nat → Map8) (n k : Nat) (hk : k < 8) : (orM ms n).at k = orW ms k n := by
  rw [Map8.at, Int.toNat_natCast, show (orM ms n).ws = orL ms n from rfl, orL, List.getD_eq_getElem?_getD]
  simp [hk]
theorem orM_arr (ms : Nat → Map8) (n : Nat) : (orM ms n).arr = ints .u64 (orL ms n) := rfl
theorem orW_bit (ms : Nat → Map8) (k s : Nat) : ∀ n, bitI (orW ms k n) s = (List.range n).any fun i => bitI ((ms i).at k) s
  | 0 => by simp [orW, bitI]
  | n + 1 => by
    obtain ⟨a0, a1⟩ := orW_range ms k n
    obtain ⟨b0, b1⟩ := (ms n).at_range k
    rw [orW, bitI_or _ _ _ a0 a1 b0 b1, orW_bit ms k s n, List.range_succ, List.any_append]
    simp
def anyI (ms : Nat → Map8) (k s n : Nat) : Bool := (List.range n).any fun i => hasI (ms i) k s
theorem anyI_succ (ms : Nat → Map8) (k s n : Nat) : anyI ms k s (n + 1) = (anyI ms k s n || hasI (ms n) k s) := by
  unfold anyI
  rw [List.range_succ, List.any_append]
  simp
theorem or_has (ms : Nat → Map8) (k s n : Nat) (hk : k < 8) (hs : s < 64) : hasI (orM ms n) k s = anyI ms k s n := by
  rw [has_of _ _ _ (by omega) (by omega) hs, orM_at _ _ _ hk, orW_bit]
  unfold anyI
  congr 1
  funext i
  rw [has_of _ _ _ (by omega) (by omega) hs]
/-- The row of the sum, j words of map i taken in. -/
def orR (ms : Nat → Map8) (i j : Nat) : List Int := (List.range 8).map fun k => if k < j then orW ms k (i + 1) else orW ms k i
theorem orR_zero (ms : Nat → Map8) (i : Nat) : orR ms i 0 = orL ms i := by simp [orR, orL]
theorem orR_full (ms : Nat → Map8) (i : Nat) : orR ms i 8 = orL ms (i + 1) := by
  unfold orR orL
  refine List.map_congr_left fun k hk => ?_
  rw [if_pos (by simpa using hk)]
theorem orR_set (ms : Nat → Map8) (i j : Nat) (hj : j < 8) : (orR ms i j).set j (orW ms j (i + 1)) = orR ms i (j + 1) := by
  apply List.ext_getElem?
  intro k
  rw [List.getElem?_set]
  unfold orR
  simp only [List.getElem?_map, List.length_map, List.length_range]
  by_cases h : j = k
  · subst h; simp [hj]
  · rw [if_neg h]
    by_cases hk : k < 8
    · simp only [List.getElem?_range hk, Option.map_some]
      congr 1
      by_cases h2 : k < j
      · rw [if_pos h2, if_pos (by omega)]
      · rw [if_neg h2, if_neg (by omega)]
    · rw [List.getElem?_eq_none (by simpa using hk)]; rfl
theorem orR_at (ms : Nat → Map8) (i j : Nat) (hj : j < 8) : (orR ms i j)[j]? = some (orW ms j i) := by
  unfold orR
  simp [hj]
theorem orL_zero (ms : Nat → Map8) : ints .u64 (orL ms 0) = ints .u64 (List.replicate 8 0) := by
  unfold orL
  congr 1
theorem hiL (ms : Nat → Map8) (n : Nat) : (Tryd.prog.info? 40).map (·.size) = some (ints .u64 (orL ms n)).size := by rw [ints_size, orL, List.length_map, List.length_range]; exact info40
/-- Maps side by side in memory. -/
def MapsAt (w : World) (b o : Nat) (ms : Nat → Map8) (n : Nat) : Prop := b < w.heap.size ∧ ∀ i, i < n → ∀ j v, ((ms i).ws.map (Value.int .u64))[j]? = some v → w.cell? ⟨b, o + i * 8 + j, none⟩ = some v
theorem MapsAt.ext {w w' : World} {b o n : Nat} {ms : Nat → Map8} (h : MapsAt w b o ms n) (hb : Below w.heap.size w w') : MapsAt w' b o ms n :=
  ⟨Nat.lt_of_lt_of_le h.1 hb.size, fun i hi j v hv => (hb.cell (p := ⟨b, o + i * 8 + j, none⟩) h.1).trans (h.2 i hi j v hv)⟩
theorem MapsAt.less {w : World} {b o n n' : Nat} {ms : Nat → Map8} (h : MapsAt w b o ms n) (hn : n' ≤ n) : MapsAt w b o ms n' := ⟨h.1, fun i hi => h.2 i (by omega)⟩
theorem MapsAt.cells {w : World} {b o n : Nat} {ms : Nat → Map8} (h : MapsAt w b o ms n) {i : Nat} (hi : i < n) (j : Nat) (hj : j < 8) : w.cell? ⟨b, o + i * 8 + j, none⟩ = some (.int .u64 ((ms i).at j)) := by
  refine h.2 i hi j _ ?_
  have := (ms i).cell j (by omega) (by omega)
  rw [Int.toNat_natCast] at this
  simpa [Map8.arr] using this
theorem MapsAt.low {w w' : World} {b o n B : Nat} {ms : Nat → Map8} (h : MapsAt w b o ms n) (hb : Below B w w') (hB : b < B) : MapsAt w' b o ms n :=
  ⟨Nat.lt_of_lt_of_le h.1 hb.size, fun i hi j v hv => (hb.cell (p := ⟨b, o + i * 8 + j, none⟩) hB).trans (h.2 i hi j v hv)⟩
set_option maxHeartbeats 8000000 in
set_option maxRecDepth 100000 in
theorem or_any (ms : Nat → Map8) (n cap : Nat) (a : Option Addr) (b o : Nat) (w : World) (hn : n ≤ 1000) (ha : 0 < n → a = some ⟨b, o, none⟩ ∧ MapsAt w b o ms n) :
    Calls Tryd.prog 52 #[.slice a n cap] w fun e w' => e = .returned (.agg (orM ms n).arr) ∧ Below w.heap.size w w' := by
  have HA := Lib.hid ha
  clear ha
  go_enter Tryd.func52, Tryd.ntmps52
  go_upto_region 2 with fail
  refine wp_name (Pr := fun W => RowAt W w.heap.size (ints .u64 (List.replicate 8 0)) 40 ∧ RowAt W (w.heap.size + 1) (ints .u64 (orL ms 0)) 40 ∧ (0 < n → a = some ⟨b, o, none⟩ ∧ MapsAt W b o ms n ∧ b < w.heap.size) ∧ Below w.heap.size w W) ⟨RowAt.alloc (RowAt.new w _ _) _, by rw [orL_zero]; have h := RowAt.new (w.alloc (.cells #[.int .u64 0, .int .u64 0, .int .u64 0, .int .u64 0, .int .u64 0, .int .u64 0, .int .u64 0, .int .u64 0] 40)) #[.int .u64 0, .int .u64 0, .int .u64 0, .int .u64 0, .int .u64 0, .int .u64 0, .int .u64 0, .int .u64 0] 40; rw [World.size_alloc] at h; exact h, fun h => ⟨(HA.out h).1, (HA.out h).2.ext (below_new (below_new (Below.refl _ _) _) _), (HA.out h).2.1⟩, below_new (below_new (Below.refl _ _) _) _⟩ ?_
  clear HA
  rintro W ⟨hR, hS, hA, hB⟩
  obtain ⟨iu, hiu, hz⟩ := Option.map_eq_some_iff.1 Tryd.infoU64
  have HR := Lib.hid hR
  have HS := Lib.hid hS
  have HA := Lib.hid hA
  have HB := Lib.hid hB
  clear hR hS hA hB
  go_wp2_with fail
  go_loopw [10] (fun t wr => ∃ (i : Nat), i ≤ n ∧ t = .int .i64 i ∧ RowAt wr w.heap.size (ints .u64 (List.replicate 8 0)) 40 ∧ RowAt wr (w.heap.size + 1) (ints .u64 (orL ms i)) 40 ∧ (0 < n → MapsAt wr b o ms n) ∧ Below w.heap.size w wr)
    (fun t _ => n - (intOf t).toNat)
  case atStart => exact ⟨0, by omega, rfl, HR.out, HS.out, fun h => (HA.out h).2.1, HB.out⟩
  case round =>
    clear HR HS HB
    obtain ⟨i, hi, rfl, hR, hS, hM, hB⟩ := hrel
    by_cases hlt : i < n
    · obtain ⟨rfl, -, hbw⟩ := HA.out (by omega)
      have HBW := Lib.hid hbw
      clear hbw
      have HM := Lib.hid (hM (by omega))
      have HR := Lib.hid hR
      have HS := Lib.hid hS
      have HB := Lib.hid hB
      have dd : decide ((i : Int) < (n : Int)) = true := dec_t (by omega)
      have hi0 : (0 : Int) ≤ (i : Int) := by omega
      clear hM hR hS hB
      go_upto_region 5 with (first | (refine wpList_load_part rfl 40 (.tmp 12) rfl b (o + i * 8) rfl ((ms i).ws.map (Value.int .u64)) _ (fun j v hv => HM.out.2 i hlt j v hv) Tryd.underlying40 rfl (hiM' _) ?_) | (refine wpList_store_row rfl 40 (.tmp 5) (.tmp 13) rfl wr.heap.size ((ms i).arr) rfl rfl 40 _ (RowAt.new wr _ _) (hiM _) (by rw [(ms i).size]; rfl) (m_one _) ?_))
      refine wp_name (Pr := fun W => RowAt W w.heap.size (ints .u64 (List.replicate 8 0)) 40 ∧ RowAt W (w.heap.size + 1) (ints .u64 (orR ms i 0)) 40 ∧ RowAt W wr.heap.size (ms i).arr 40 ∧ MapsAt W b o ms n ∧ Below w.heap.size w W)
        ⟨RowAt.setRow_other (HR.out.alloc _) (by have := HS.out.lt; omega) _, by rw [orR_zero]; exact RowAt.setRow_other (HS.out.alloc _) (by have := HS.out.lt; omega) _, RowAt.setRow (RowAt.new wr _ _) _, HM.out.ext (below_setRow (below_new (Below.refl _ _) _) (Nat.le_refl _) _), below_setRow (below_new HB.out _) (by have := HR.out.lt; omega) _⟩ ?_
      have hne : w.heap.size + 1 < wr.heap.size := HS.out.lt
      obtain ⟨g, hg⟩ : ∃ g, wr.heap.size = g := ⟨_, rfl⟩
      rw [hg] at hne ⊢
      clear HR HS HB HM hg
      rintro W4 ⟨hR, hS, hG, hM, hB⟩
      have HG := Lib.hid hG
      have HR := Lib.hid hR
      have HS := Lib.hid hS
      have HM := Lib.hid hM
      have HB := Lib.hid hB
      clear hR hS hG hM hB
      go_upto_region 6 with (refine wpList_load_row rfl 40 (.tmp 5) rfl g rfl 40 ((ms i).arr) (0, 0) _ HG.out Tryd.underlying40 rfl (hiM _) ?_)
      have hne2 : w.heap.size < g := by omega
      go_loopw [15] (fun t wq => ∃ (j : Nat), j ≤ 8 ∧ t = .int .i64 j ∧ RowAt wq w.heap.size (ints .u64 (List.replicate 8 0)) 40 ∧ RowAt wq (w.heap.size + 1) (ints .u64 (orR ms i j)) 40 ∧ MapsAt wq b o ms n ∧ Below w.heap.size w wq)
        (fun t _ => 8 - (intOf t).toNat)
      case atStart => exact ⟨0, by omega, rfl, HR.out, HS.out, HM.out, HB.out⟩
      case round =>
        clear HR HS HM HB HG
        obtain ⟨j, hj, rfl, hR, hS, hM, hB⟩ := hrel
        by_cases hlt2 : j < 8
        · have hc := hS.cell (ints_get (k := .u64) (orR_at ms i j hlt2))
          have hf := hS.frozen j
          have hj0 : (0 : Int) ≤ (j : Int) := by omega
          have hj1 : (j : Int) < 8 := by omega
          have hx := fun w => run_index_arr (P := Tryd.prog) w 40 22 8 .i64 .u64 (ms i).arr (j : Int) (.int .u64 ((ms i).at j)) iu Tryd.underlying40 Tryd.underlying22 hiu hz hj0 hj1 ((ms i).cell j hj0 hj1)
          have dd : decide ((j : Int) < 8) = true := dec_t (by omega)
          have HR := Lib.hid hR
          have HS := Lib.hid hS
          have HM := Lib.hid hM
          have HB := Lib.hid hB
          clear hR hS hM hB
          go_wp2_with fail
          go_roundw
          case measure => simp [intOf]; omega
          case rel =>
            have q := HS.out.set j (.int .u64 (bits .or .u64 (orW ms j i) ((ms i).at j)))
            rw [ints_set, show bits .or .u64 (orW ms j i) ((ms i).at j) = orW ms j (i + 1) from rfl, orR_set ms i j hlt2] at q
            exact ⟨j + 1, by omega, by go_num, HR.out.other (by simp) _, q, HM.out.low (below_set (Below.refl _ _) (by simp) _) (show b < w.heap.size from HBW.out), below_set HB.out (by simp) _⟩
        · obtain rfl : j = 8 := by omega
          have dd : decide (((8 : Nat) : Int) < 8) = false := dec_f (by omega)
          rw [orR_full] at hS
          have HR := Lib.hid hR
          have HS := Lib.hid hS
          have HM := Lib.hid hM
          have HB := Lib.hid hB
          clear hR hS hM hB
          go_wp2_with fail
          go_roundw
          case measure => simp [intOf]; omega
          case rel => exact ⟨i + 1, by omega, by go_num, HR.out, HS.out, fun _ => HM.out, HB.out⟩
    · obtain rfl : i = n := by omega
      have dd : decide ((i : Int) < (i : Int)) = false := dec_f (by omega)
      go_wp2_with (first | (refine wpList_load_row rfl 40 (.tmp 3) rfl (w.heap.size + 1) rfl 40 (ints .u64 (orL ms i)) (0, 0) _ hS Tryd.underlying40 rfl (hiL _ _) ?_) | (refine wpList_store_row rfl 40 (.tmp 2) (.tmp 27) rfl w.heap.size (ints .u64 (orL ms i)) rfl rfl 40 _ hR (hiL _ _) (by rw [ints_size, ints_size]; simp [orL]) (ints_one _ _) ?_))
      rw [orM_arr]
      exact bodyPost_ret (v := .agg (ints .u64 (orL ms i))) (results_cell_row rfl _ _ w.heap.size 40 (ints .u64 (orL ms i)) (0, 0) _ rfl (hR.setRow _) Tryd.underlying40 rfl (hiL _ _)) rfl ⟨rfl, below_setRow hB (Nat.le_refl _) _⟩
end Go.Proofs.YtnoafhfidecppaaDoor
