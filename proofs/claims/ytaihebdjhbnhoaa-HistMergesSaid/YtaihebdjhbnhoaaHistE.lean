/- What a histogram tells of its sums. -/
import Derived.Test.YtaihebdjhbnhoaaHistD
namespace Go.Proofs.Ytaihebdjhbnhoaa
open Go.RowKit
set_option linter.unusedVariables false
set_option linter.unusedSimpArgs false

def Hs.sums (h : Hs) : Sums := if h.n == List.replicate 65 0 then ⟨0, 0, 0, 0⟩ else h.all
theorem sums_of (b : Nat) (h : Hs) (w : World) (hA : HistAt w b h) (hl : h.n.length = 65) : Calls Try.prog 47 #[.pointer (some ⟨b, 0, none⟩)] w fun e w' => e = .returned (.agg #[.int .i64 h.sums.count, .int .u64 h.sums.sum, .int .u64 h.sums.least, .int .u64 h.sums.most]) ∧ Below w.heap.size w w' := by
  cases hz : (h.n == List.replicate 65 0) with
  | true =>
    have e : h.sums = ⟨0, 0, 0, 0⟩ := by unfold Hs.sums; rw [hz]; rfl
    rw [e]
    exact of_zero b h w hA hl hz
  | false =>
    have e : h.sums = h.all := by unfold Hs.sums; rw [hz]; rfl
    rw [e]
    exact of_live b h w hA hl hz
set_option maxHeartbeats 4000000 in
set_option maxRecDepth 100000 in
theorem count_any (b : Nat) (h : Hs) (w : World) (hA : HistAt w b h) (hl : h.n.length = 65) : Calls Try.prog 23 #[.pointer (some ⟨b, 0, none⟩)] w fun e w' => e = .returned (.int .i64 h.sums.count) ∧ Below w.heap.size w w' := by
  have f0 := fld0 h.sums.count h.sums.sum h.sums.least h.sums.most
  have f1 := fld1 h.sums.count h.sums.sum h.sums.least h.sums.most
  have f2 := fld2 h.sums.count h.sums.sum h.sums.least h.sums.most
  have f3 := fld3 h.sums.count h.sums.sum h.sums.least h.sums.most
  go_enter Try.func23, Try.ntmps23
  go_wp2_with (go_at_call 47; refine (sums_of b h _ hA hl).mono ?_; rintro e w' ⟨rfl, hb⟩)
  go_ret
  exact ⟨rfl, hb⟩
set_option maxHeartbeats 4000000 in
set_option maxRecDepth 100000 in
theorem sum_any (b : Nat) (h : Hs) (w : World) (hA : HistAt w b h) (hl : h.n.length = 65) : Calls Try.prog 25 #[.pointer (some ⟨b, 0, none⟩)] w fun e w' => e = .returned (.int .u64 h.sums.sum) ∧ Below w.heap.size w w' := by
  have f0 := fld0 h.sums.count h.sums.sum h.sums.least h.sums.most
  have f1 := fld1 h.sums.count h.sums.sum h.sums.least h.sums.most
  have f2 := fld2 h.sums.count h.sums.sum h.sums.least h.sums.most
  have f3 := fld3 h.sums.count h.sums.sum h.sums.least h.sums.most
  go_enter Try.func25, Try.ntmps25
  go_wp2_with (go_at_call 47; refine (sums_of b h _ hA hl).mono ?_; rintro e w' ⟨rfl, hb⟩)
  go_ret
  exact ⟨rfl, hb⟩
set_option maxHeartbeats 4000000 in
set_option maxRecDepth 100000 in
theorem least_any (b : Nat) (h : Hs) (w : World) (hA : HistAt w b h) (hl : h.n.length = 65) : Calls Try.prog 17 #[.pointer (some ⟨b, 0, none⟩)] w fun e w' => e = .returned (.tuple #[.int .u64 h.sums.least, .bool (decide (0 < h.sums.count))]) ∧ Below w.heap.size w w' := by
  have f0 := fld0 h.sums.count h.sums.sum h.sums.least h.sums.most
  have f1 := fld1 h.sums.count h.sums.sum h.sums.least h.sums.most
  have f2 := fld2 h.sums.count h.sums.sum h.sums.least h.sums.most
  have f3 := fld3 h.sums.count h.sums.sum h.sums.least h.sums.most
  go_enter Try.func17, Try.ntmps17
  go_wp2_with (first | (go_at_call 47; refine (sums_of b h _ hA hl).mono ?_; rintro e w' ⟨rfl, hb⟩) | (go_at_call 23; refine (count_any b h _ (RowAt.ext hA hb) hl).mono ?_; rintro e w' ⟨rfl, hb2⟩))
  go_ret2
  exact ⟨rfl, below_then hb hb2⟩
set_option maxHeartbeats 4000000 in
set_option maxRecDepth 100000 in
theorem most_any (b : Nat) (h : Hs) (w : World) (hA : HistAt w b h) (hl : h.n.length = 65) : Calls Try.prog 18 #[.pointer (some ⟨b, 0, none⟩)] w fun e w' => e = .returned (.tuple #[.int .u64 h.sums.most, .bool (decide (0 < h.sums.count))]) ∧ Below w.heap.size w w' := by
  have f0 := fld0 h.sums.count h.sums.sum h.sums.least h.sums.most
  have f1 := fld1 h.sums.count h.sums.sum h.sums.least h.sums.most
  have f2 := fld2 h.sums.count h.sums.sum h.sums.least h.sums.most
  have f3 := fld3 h.sums.count h.sums.sum h.sums.least h.sums.most
  go_enter Try.func18, Try.ntmps18
  go_wp2_with (first | (go_at_call 47; refine (sums_of b h _ hA hl).mono ?_; rintro e w' ⟨rfl, hb⟩) | (go_at_call 23; refine (count_any b h _ (RowAt.ext hA hb) hl).mono ?_; rintro e w' ⟨rfl, hb2⟩))
  go_ret2
  exact ⟨rfl, below_then hb hb2⟩
set_option maxHeartbeats 4000000 in
set_option maxRecDepth 100000 in
theorem bucket_in (b : Nat) (h : Hs) (k v : Int) (w : World) (hA : HistAt w b h) (k0 : 0 ≤ k) (k1 : k < 65) (hv : (h.n.map (Value.int .i64))[k.toNat]? = some (.int .i64 v)) : Calls Try.prog 24 #[.pointer (some ⟨b, 0, none⟩), .int .i64 k] w fun e w' => e = .returned (.int .i64 v) ∧ Below w.heap.size w w' := by
  obtain ⟨x, y, hE⟩ : ∃ x y, endsI k = (x, y, true) := by
    unfold endsI
    rw [if_neg (by omega)]
    split
    · exact ⟨_, _, rfl⟩
    · exact ⟨_, _, rfl⟩
  go_enter Try.func24, Try.ntmps24
  go_wp2_with (go_at_call 12; refine (ends_any k _ (by omega) (by omega)).mono ?_; rw [hE]; rintro e w' ⟨rfl, hb⟩; have hc := HistAt.part (RowAt.ext hA hb) k.toNat (.int .i64 v) hv)
  go_ret
  exact ⟨rfl, hb⟩
end Go.Proofs.Ytaihebdjhbnhoaa
