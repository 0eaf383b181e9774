/- The document's functions on sorted numbers: Add, Sum, Of, Ends, Part. -/
import Derived.Test.YtaihebdjhbnhoaaHistO
import Derived.Test.YtaihebdjhbnhoaaGrow
namespace Go.Proofs.Ytaihebdjhbnhoaa
open Go.RowKit
set_option linter.unusedVariables false
set_option linter.unusedSimpArgs false

def insL : List Int → Int → List Int
  | [], n => [n]
  | x :: l, n => if n < x then n :: x :: l else x :: insL l n
def putB (l : List Int) (n : Int) : Bool := l.any (fun x => decide (n < x))
def outL (l : List Int) (n : Int) : List Int := if putB l n then insL l n else l
theorem insL_put {l : List Int} {n x : Int} (h : putB l n = true) : insL (l ++ [x]) n = insL l n ++ [x] := by
  induction l with
  | nil => simp [putB] at h
  | cons y l ih =>
    simp only [List.cons_append, insL]
    by_cases q : n < y
    · rw [if_pos q, if_pos q]; rfl
    · rw [if_neg q, if_neg q, ih (by simpa [putB, q] using h)]; rfl
theorem insL_end {l : List Int} {n : Int} (h : putB l n = false) : insL l n = l ++ [n] := by
  induction l with
  | nil => rfl
  | cons y l ih =>
    have q : ¬ n < y := by
      intro q
      simp [putB, q] at h
    simp only [insL, if_neg q, List.cons_append]
    rw [ih (by simpa [putB, q] using h)]
theorem insL_first {l : List Int} {n x : Int} (h : putB l n = false) (hx : n < x) : insL (l ++ [x]) n = l ++ [n] ++ [x] := by
  induction l with
  | nil => simp [insL, hx]
  | cons y l ih =>
    have q : ¬ n < y := by
      intro q
      simp [putB, q] at h
    simp only [List.cons_append, insL, if_neg q]
    rw [ih (by simpa [putB, q] using h)]
    try simp
theorem putB_snoc (l : List Int) (n x : Int) : putB (l ++ [x]) n = (putB l n || decide (n < x)) := by simp [putB]
theorem insL_perm (l : List Int) (n : Int) : (insL l n).Perm (n :: l) := by
  induction l with
  | nil => exact List.Perm.refl _
  | cons y l ih =>
    simp only [insL]
    split
    · exact List.Perm.refl _
    · exact (ih.cons y).trans (List.Perm.swap _ _ _)
theorem insL_sorted {l : List Int} (h : l.Pairwise (· ≤ ·)) (n : Int) : (insL l n).Pairwise (· ≤ ·) := by
  induction l with
  | nil => simp [insL]
  | cons y l ih =>
    rw [List.pairwise_cons] at h
    simp only [insL]
    split
    · rename_i q
      rw [List.pairwise_cons, List.pairwise_cons]
      refine ⟨fun z hz => ?_, h.1, h.2⟩
      rcases List.mem_cons.1 hz with rfl | hz
      · omega
      · have := h.1 z hz; omega
    · rename_i q
      rw [List.pairwise_cons]
      refine ⟨fun z hz => ?_, ih h.2⟩
      rcases List.mem_cons.1 ((insL_perm l n).mem_iff.1 hz) with rfl | hz
      · omega
      · exact h.1 z hz
theorem insL_length (l : List Int) (n : Int) : (insL l n).length = l.length + 1 := (insL_perm l n).length_eq
theorem outL_length (l : List Int) (n : Int) : (outL l n).length ≤ l.length + 1 := by
  unfold outL
  split
  · rw [insL_length]; omega
  · omega
set_option maxHeartbeats 8000000 in
set_option maxRecDepth 100000 in
theorem rAdd_any (v : Value) (l : List Int) (n : Int) (w : World) (ok : Nat → Prop) (hv : Lst .u64 w v l ok) (hl : l.length ≤ 1000000) :
    Calls Try.prog 21 #[v, .int .u64 n] w fun e w' => ∃ v', e = .returned v' ∧ Lst .u64 w' v' (insL l n) (fun g => w.heap.size ≤ g) ∧ Below w.heap.size w w' := by
  obtain ⟨a, cap, rfl, hc1, hc2, hcell⟩ := hv
  unfold maxLen at hc2
  have HC := Lib.hid hcell
  have l0 : (l.length : Int) ≤ 1000000 := by omega
  clear hcell
  go_enter Try.func21, Try.ntmps21
  go_wp2_with fail
  go_loopw [5, 6, 7] (fun u p i wr => ∃ k : Nat, k ≤ l.length ∧ i = .int .i64 k ∧ p = .bool (putB (l.take k) n) ∧ wr.ownsRow w.heap.size 22 1 u (outL (l.take k) n).length ((outL (l.take k) n).map (Value.int .u64)) ∧ Below w.heap.size w wr) (fun _ _ i _ => l.length - (intOf i).toNat)
  case atStart => exact ⟨0, by omega, rfl, rfl, World.ownsRow_nil _ _ _ _, Below.refl _ _⟩
  case round =>
    obtain ⟨k, hk, rfl, rfl, hown, hB⟩ := hrel
    have HO := Lib.hid hown
    have HB := Lib.hid hB
    clear hown hB
    by_cases hlt : k < l.length
    · obtain ⟨p, rfl, hp, _, hcl⟩ := HC.out (by omega)
      have c0 := (HB.out.cell (p := p.add k) (by rw [addr_add_block]; exact hp)).trans (hcl k hlt)
      have e1 := take_snoc_get l k hlt
      have HE := Lib.hid e1
      have hol := outL_length (l.take k) n
      have hol2 : (outL (l.take k) n).length ≤ 1000000000 := by simp at hol; omega
      have hol3 : (outL (l.take k) n).length + 1 ≤ 1000000000 := by simp at hol; omega
      have HCK : Hid (∀ w1, Below w.heap.size w w1 → w1.cell? (p.add k) = some (.int .u64 l[k])) := fun w1 hb1 => (hb1.cell (p := p.add k) (by rw [addr_add_block]; exact hp)).trans (hcl k hlt)
      clear hcl hp e1 hol
      cases hput : putB (l.take k) n with
      | true =>
        have HP := Lib.hid hput
        clear hput
        go_wp2_with (at_builtin; refine wpList_grow1 rfl (.tmp 28) (.tmp 33) 28 rfl w.heap.size 22 1 8 Try.underlying28 (by kernel_rfl) (by decide) (by decide) _ _ _ rfl HO.out [.int .u64 l[k]] rfl rfl (by simp [Value.oneCell']) hol2 HB.out.size HB.out _ ?_; intro v1 w1 hown1 hB1 hs1 _)
        go_roundw
        case measure => simp [intOf]; omega
        case rel =>
          refine ⟨k + 1, by omega, by simp, ?_, ?_, hB1⟩
          · rw [HE.out, putB_snoc, HP.out]; rfl
          · rw [map_snoc] at hown1
            have e2 : outL (l.take (k + 1)) n = outL (l.take k) n ++ [l[k]] := by
              unfold outL
              rw [HE.out, putB_snoc, HP.out]
              simp only [Bool.true_or, if_true]
              exact insL_put HP.out
            rw [e2]
            simpa using hown1
      | false =>
        have HP := Lib.hid hput
        clear hput
        by_cases hx : n < l[k]
        · have g1 : decide (n < l[k]) = true := by simpa using hx
          have HX := Lib.hid hx
          clear hx
          --A
          go_wp2_with (first | (at_builtin; refine wpList_grow1 rfl (.tmp 24) (.tmp 26) 28 rfl w.heap.size 22 1 8 Try.underlying28 (by kernel_rfl) (by decide) (by decide) _ _ _ rfl HO.out [.int .u64 n] rfl rfl (by simp [Value.oneCell']) hol2 (HB.out).size HB.out _ ?_; intro v1 w1 hown1 hB1 hs1 _; have c1 := HCK.out w1 hB1) | (at_builtin; refine wpList_grow1 rfl (.tmp 28) (.tmp 33) 28 rfl w.heap.size 22 1 8 Try.underlying28 (by kernel_rfl) (by decide) (by decide) _ _ _ rfl hown1 [.int .u64 l[k]] rfl rfl (by simp [Value.oneCell']) hol3 (hB1).size hB1 _ ?_; intro v2 w2 hown2 hB2 hs2 _))
          go_roundw
          case measure => simp [intOf]; omega
          case rel =>
            refine ⟨k + 1, by omega, by simp, ?_, ?_, hB2⟩
            · rw [HE.out, putB_snoc, HP.out]; simp [HX.out]
            · rw [map_snoc, map_snoc] at hown2
              have e2 : outL (l.take (k + 1)) n = outL (l.take k) n ++ [n] ++ [l[k]] := by
                unfold outL
                rw [HE.out, putB_snoc, HP.out]
                simp only [Bool.false_or, HX.out, decide_true, if_true]
                exact insL_first HP.out HX.out
              rw [e2]
              simpa using hown2
        · have g1 : decide (n < l[k]) = false := by simpa using hx
          have HX := Lib.hid hx
          clear hx
          go_wp2_with (at_builtin; refine wpList_grow1 rfl (.tmp 28) (.tmp 33) 28 rfl w.heap.size 22 1 8 Try.underlying28 (by kernel_rfl) (by decide) (by decide) _ _ _ rfl HO.out [.int .u64 l[k]] rfl rfl (by simp [Value.oneCell']) hol2 (HB.out).size HB.out _ ?_; intro v1 w1 hown1 hB1 hs1 _)
          go_roundw
          case measure => simp [intOf]; omega
          case rel =>
            refine ⟨k + 1, by omega, by simp, ?_, ?_, hB1⟩
            · rw [HE.out, putB_snoc, HP.out]; simp [HX.out]
            · rw [map_snoc] at hown1
              have e2 : outL (l.take (k + 1)) n = outL (l.take k) n ++ [l[k]] := by
                unfold outL
                rw [HE.out, putB_snoc, HP.out]
                simp [HX.out]
              rw [e2]
              simpa using hown1
    · obtain rfl : k = l.length := by omega
      rw [List.take_length] at HO ⊢
      have hol := outL_length l n
      have hol2 : (outL l n).length ≤ 1000000000 := by omega
      clear hol
      cases hput : putB l n with
      | true =>
        have HP := Lib.hid hput
        clear hput
        go_wp2_with fail
        go_ret
        have e2 : outL l n = insL l n := by unfold outL; rw [HP.out]; rfl
        refine ⟨_, rfl, ?_, HB.out⟩
        have q := HO.out
        rw [e2] at q
        exact Lst.of_own q
      | false =>
        have HP := Lib.hid hput
        clear hput
        go_wp2_with (at_builtin; refine wpList_grow1 rfl (.tmp 37) (.tmp 39) 28 rfl w.heap.size 22 1 8 Try.underlying28 (by kernel_rfl) (by decide) (by decide) _ _ _ rfl HO.out [.int .u64 n] rfl rfl (by simp [Value.oneCell']) hol2 (HB.out).size HB.out _ ?_; intro v1 w1 hown1 hB1 hs1 _)
        go_ret
        refine ⟨_, rfl, ?_, hB1⟩
        have e2 : outL l n = l := by unfold outL; rw [HP.out]; rfl
        rw [map_snoc, e2, ← insL_end HP.out] at hown1
        exact Lst.of_own (by rw [insL_length]; exact hown1)
end Go.Proofs.Ytaihebdjhbnhoaa
