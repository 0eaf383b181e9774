/- The clint: where its registers are. -/
import Derived.Test.YtaihebdjhbnhoaaClB
import Derived.Test.YtaihebdjhbnhoaaMap
namespace Go.Proofs.Ytaihebdjhbnhoaa
open Go.RowKit
set_option linter.unusedVariables false
set_option linter.unusedSimpArgs false

theorem KU : KeyEnc Try.prog 43 (fun a : Int => Value.int .u32 a) := keyEnc_int Try.underlying43
def plV (p : Int × Int) : Value := .agg #[.int .i64 p.1, .int .i64 p.2]
/-- What a register holds, and of which hart. -/
def pl : Nat → Int → Option (Int × Int)
  | 0, off => if off = 49148 then some (5, 0) else if off = 49144 then some (4, 0) else none
  | k + 1, off => if off = 16388 + 8 * (k : Int) then some (3, (k : Int)) else if off = 16384 + 8 * (k : Int) then some (2, (k : Int)) else if off = 4 * (k : Int) then some (1, (k : Int)) else pl k off
theorem pl_in {n : Nat} {off : Int} {p : Int × Int} (h : pl n off = some p) : 1 ≤ p.1 ∧ p.1 ≤ 5 ∧ 0 ≤ p.2 ∧ (p.1 ≤ 3 → p.2 < (n : Int)) ∧ (3 < p.1 → p.2 = 0) := by
  induction n with
  | zero =>
    simp only [pl] at h
    split at h
    · injection h with h; subst h; simp
    · split at h
      · injection h with h; subst h; simp
      · simp at h
  | succ k ih =>
    simp only [pl] at h
    split at h
    · injection h with h; subst h; simp; omega
    · split at h
      · injection h with h; subst h; simp; omega
      · split at h
        · injection h with h; subst h; simp; omega
        · have := ih h
          omega
set_option maxHeartbeats 8000000 in
set_option maxRecDepth 100000 in
theorem places_live (b : Nat) (c : Cl) (w : World) (hA : ClAt w b c) (hn : c.n ≤ 8) :
    Calls Try.prog 67 #[.pointer (some ⟨b, 0, none⟩)] w fun e w' => ∃ g L k, e = .returned (.map (some g)) ∧ w.heap.size ≤ g ∧ MapAt w' g (fun a : Int => Value.int .u32 a) L k ∧ (∀ off, valL off L = (pl c.n off).map plV) ∧ Below w.heap.size w w' := by
  have HA := Lib.hid hA
  have hcn := hA.cn
  have n8 : (c.n : Int) ≤ 8 := by omega
  have hlt := RowAt.lt hA
  have HLT := Lib.hid hlt
  have hmm := @run_makeMap Try.prog
  clear hA
  go_enter Try.func67, Try.ntmps67
  go_upto_region 2 with (first | (refine wpList_insert_at rfl (.tmp 6) (.const (.int .u32 49144)) (.tmp 7) rfl KU Try.underlying101 (MapAt.new _ _) rfl 49144 rfl _ rfl ?_) | (refine wpList_insert_at rfl (.tmp 6) (.const (.int .u32 49148)) (.tmp 8) rfl KU Try.underlying101 (MapAt.set (MapAt.new _ _) _ _) rfl 49148 rfl _ rfl ?_))
  refine wp_name (Pr := fun W => MapAt W w.heap.size (fun a : Int => Value.int .u32 a) [(49144, plV (4, 0), 0), (49148, plV (5, 0), 1)] 2 ∧ Below w.heap.size w W) ⟨?_, ?_⟩ ?_
  · exact heap_setB_at _ (heap_setB_at _ (heap_alloc_new w _))
  · exact (But.below (But.below (below_new (Below.refl _ _) _) (but_setB _ _ _) (Nat.le_refl _) (by simp)) (but_setB _ _ _) (Nat.le_refl _) (by simp [setB]))
  rintro W ⟨hM, hB⟩
  have hcn := (ClAt.but HA.out (but_of hB w.heap.size) (by omega)).cn
  obtain ⟨g, hg⟩ : ∃ g, w.heap.size = g := ⟨_, rfl⟩
  have HGe : Hid (w.heap.size = g) := hg
  rw [hg] at hM ⊢
  have HM := Lib.hid hM
  have HB := Lib.hid hB
  have HC := Lib.hid hcn
  clear hM hB hg hlt
  go_wp2_with fail
  go_loopw [14] (fun i wr => ∃ (k : Nat) (L : List (Ent Int)) (q : Nat), k ≤ c.n ∧ i = .int .i64 k ∧ MapAt wr g (fun a : Int => Value.int .u32 a) L q ∧ (∀ off, valL off L = (pl k off).map plV) ∧ Below w.heap.size w wr) (fun i _ => c.n - (intOf i).toNat)
  case atStart =>
    refine ⟨0, _, _, by omega, rfl, HM.out, fun off => ?_, HB.out⟩
    simp only [valL_cons, valL_nil, pl]
    by_cases h1 : off = 49144
    · subst h1; rfl
    · by_cases h2 : off = 49148
      · subst h2; rfl
      · simp [h1, h2]
  case round =>
    clear HM HB HC
    obtain ⟨k, L, q, hk, rfl, hM, hv, hB⟩ := hrel
    have HM := Lib.hid hM
    have HV := Lib.hid hv
    have HB := Lib.hid hB
    clear hM hv hB
    by_cases hlt : k < c.n
    · have k0 : (0 : Int) ≤ (k : Int) := by omega
      have k8 : (k : Int) < 8 := by omega
      have t0 : decide (k < c.n) = true := dec_t hlt
      clear hn
      go_upto_region 7 with (at_mapUpdate; refine wpList_update_at rfl (.tmp 19) (.tmp 22) (.tmp 24) rfl KU Try.underlying101 HM.out rfl _ rfl _ rfl ?_)
      go_upto_region 8 with (at_mapUpdate; refine wpList_update_at rfl (.tmp 25) (.tmp 28) (.tmp 30) rfl KU Try.underlying101 (MapAt.set HM.out _ _) rfl _ rfl _ rfl ?_)
      go_upto_region 9 with (at_mapUpdate; refine wpList_update_at rfl (.tmp 31) (.tmp 35) (.tmp 37) rfl KU Try.underlying101 (MapAt.set (MapAt.set HM.out _ _) _ _) rfl _ rfl _ rfl ?_)
      go_wp2_with fail
      refine ⟨⟨k + 1, _, _, by omega, by simp, MapAt.set (MapAt.set (MapAt.set HM.out _ _) _ _) _ _, fun off => ?_, ?_⟩, ?_⟩
      · simp only [valL_upd, HV.out, pl]
        have e3 : (off = 16384 + 8 * (k : Int) + 4) = (off = 16388 + 8 * (k : Int)) := by
          simp only [eq_iff_iff]
          omega
        simp only [e3, apply_ite (Option.map plV)]
        rfl
      · have e := HGe.out
        exact But.below (But.below (But.below HB.out (but_setB _ g _) (by omega) HB.out.size) (but_setB _ g _) (by omega) (by simp [setB]; exact HB.out.size)) (but_setB _ g _) (by omega) (by simp [setB]; exact HB.out.size)
      · simp only [intOf]
        omega
    · obtain rfl : k = c.n := by omega
      have t0 : decide (c.n < c.n) = false := dec_f hlt
      go_wp2_with fail
      go_ret
      exact ⟨g, L, q, rfl, by have := HGe.out; omega, HM.out, HV.out, HB.out⟩
end Go.Proofs.Ytaihebdjhbnhoaa
