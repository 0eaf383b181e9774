/- What is told of any map: the arguments opened. -/
import Derived.Test.YtnoafhfidecppaaDoorOccM
import Derived.Test.YtnoafhfidecppaaDoorArgs
namespace Go.Proofs.YtnoafhfidecppaaDoor
open Go.RowKit
set_option linter.unusedVariables false
set_option linter.unusedSimpArgs false
theorem cell_spot {W : World} {a : Addr} {v : Value} (h : W.cell? a = some v) : a.spot = none := by
  unfold World.cell? at h
  cases hs : a.spot with
  | none => rfl
  | some x =>
    rw [hs] at h
    split at h <;> simp at h
theorem add_plain (b o i j : Nat) : (⟨b, o, none⟩ : Addr).add (i * 8 + j) = ⟨b, o + i * 8 + j, none⟩ := by
  unfold Addr.add
  split
  · rename_i h
    have h1 : i = 0 := by omega
    have h2 : j = 0 := by omega
    subst h1 h2
    rfl
  · rw [Nat.add_assoc]
theorem maps_fit {W : World} {a : Option Addr} {len cap : Nat} (h : Fit1 W (.slice [.int .u64, .int .u64, .int .u64, .int .u64, .int .u64, .int .u64, .int .u64, .int .u64]) (.slice a len cap)) :
    len ≤ cap ∧ cap ≤ maxLen ∧ ∃ (b o : Nat) (ms : Nat → Map8), 0 < len → a = some ⟨b, o, none⟩ ∧ MapsAt W b o ms len := by
  unfold Fit1 at h
  rcases h with h | ⟨a', len', cap', h1, h2, h3, h4⟩
  · simp only [Value.slice.injEq] at h
    obtain ⟨rfl, rfl, rfl⟩ := h
    exact ⟨by omega, by omega, 0, 0, fun _ => k0, fun h => by omega⟩
  · simp only [Value.slice.injEq] at h1
    obtain ⟨rfl, rfl, rfl⟩ := h1
    refine ⟨h2, h3, ?_⟩
    have ex : ∀ i, ∃ m : Map8, i < len → ∀ j v, (m.ws.map (Value.int .u64))[j]? = some v → W.cell? (a'.add (i * 8 + j)) = some v := by
      intro i
      by_cases hi : i < len
      · obtain ⟨cs, hc, hf⟩ := h4 i hi
        obtain ⟨m, hm⟩ := map8_of_fits (cs := cs.toArray) (by simpa using hf)
        refine ⟨m, fun _ j v hv => ?_⟩
        have hcs : cs = m.ws.map (Value.int .u64) := by
          have := congrArg Array.toList hm
          simpa [Map8.arr] using this
        have hj : j < 8 := by
          have := (List.getElem?_eq_some_iff.1 hv).1
          rw [List.length_map, m.len] at this
          exact this
        have q := hc j (by simpa using hj)
        rw [hcs, hv] at q
        exact q
      · exact ⟨k0, fun h => absurd h hi⟩
    obtain ⟨ms, hms⟩ := Classical.axiomOfChoice ex
    obtain ⟨bb, oo, sp⟩ := a'
    refine ⟨bb, oo, ms, fun hpos => ?_⟩
    have z : ∃ v, W.cell? ⟨bb, oo, sp⟩ = some v := by
      obtain ⟨v, hv⟩ : ∃ v, ((ms 0).ws.map (Value.int .u64))[0]? = some v := ⟨_, List.getElem?_eq_getElem (by rw [List.length_map, (ms 0).len]; omega)⟩
      exact ⟨v, hms 0 hpos 0 v hv⟩
    obtain ⟨v, hv⟩ := z
    have hsp : sp = none := cell_spot hv
    subst hsp
    exact ⟨rfl, World.block_lt_of_cell? W _ hv, fun i hi j v hv => by rw [← add_plain]; exact hms i hi j v hv⟩
theorem OccTells_walk (cs : Array Value) (a : Option Addr) (len cap : Nat) (W : World) (hT : Tab W) (f : Fits W [.int .u64, .int .u64, .int .u64, .int .u64, .int .u64, .int .u64, .int .u64, .int .u64] cs.toList)
    (hf : Fit1 W (.slice [.int .u64, .int .u64, .int .u64, .int .u64, .int .u64, .int .u64, .int .u64, .int .u64]) (.slice a len cap)) :
    Calls Tryd.prog 9 #[.agg cs, .slice a len cap] W fun e w' => e = .returned (.bool true) ∧ Below W.heap.size W w' := by
  obtain ⟨m, rfl⟩ := map8_of_fits f
  obtain ⟨h1, h2, b, o, ms, h3⟩ := maps_fit hf
  exact OccTells_m m ms len cap a b o W hT h1 h2 h3
end Go.Proofs.YtnoafhfidecppaaDoor
