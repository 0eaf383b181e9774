/- Whatever numbers come: the walk of the law HistAdds. -/
import Derived.Test.YtaihebdjhbnhoaaHistS
namespace Go.Proofs.Ytaihebdjhbnhoaa
open Go.RowKit
set_option linter.unusedVariables false
set_option linter.unusedSimpArgs false

theorem firstL_succ (zs : List Int) (k : Nat) : firstL zs (k + 1) = firstL zs k ++ [zs.getD k 0] := by
  unfold firstL
  rw [List.range_succ, List.map_append]
  rfl
theorem sliceAt_one {W : World} (x : Int) {b : Nat} (hb : b < W.heap.size) (t : TypeId) : SliceAt (W.alloc (.cells #[.int .u64 x] t)) (some ⟨W.heap.size, 0, none⟩) [x] b := by
  intro _
  refine ⟨_, rfl, by simp, by dsimp only; omega, fun k hk => ?_⟩
  obtain rfl : k = 0 := by simp at hk; omega
  exact RowAt.cell (RowAt.new W #[.int .u64 x] t) rfl
set_option maxHeartbeats 16000000 in
set_option maxRecDepth 100000 in
theorem HistAdds_walk (a : Option Addr) (len cap : Nat) (zs : List Int) (p : Int) (W : World) (hcap : len ≤ cap) (hlen : cap ≤ 9223372036854775807)
    (hz : 0 < len → ∃ p, a = some p ∧ p.block < W.heap.size ∧ ∀ k, k < len → W.cell? (p.add k) = some (.int .u64 (zs.getD k 0))) (hg : ∀ k, 0 ≤ zs.getD k 0 ∧ zs.getD k 0 ≤ 18446744073709551615)
    (p0 : -9223372036854775808 ≤ p) (p1 : p ≤ 9223372036854775807) :
    Calls Try.prog 5 #[.slice a len cap, .int .i64 p] W fun e w' => e = .returned (.bool true) ∧ Below W.heap.size W w' := by
  have HG := Lib.hid hg
  have HZ := Lib.hid hz
  clear hg hz
  go_enter Try.func5, Try.ntmps5
  go_wp2_with fail
  refine (new_L _).mono ?_
  rintro e w1 ⟨b, rfl, hb, hA, hB⟩
  have HA1 := Lib.hid hA
  have HB1 := Lib.hid hB
  clear hA hB
  go_wp2_with fail
  go_loopw [6, 7] (fun m i wr => ∃ (k : Nat) (s : List Int), k ≤ len ∧ k ≤ 60 ∧ i = .int .i64 k ∧ HistAt wr b (HsOf (firstL zs k)) ∧ Lst .u64 wr m s (fun g => g ≠ b) ∧ (firstL zs k).Perm s ∧ s.Pairwise (· ≤ ·) ∧ Below W.heap.size W wr) (fun _ i _ => 60 - (intOf i).toNat)
  case atStart => exact ⟨0, [], by omega, by omega, rfl, HA1.out, Lst.nil _ _ _, List.Perm.refl _, List.Pairwise.nil, HB1.out⟩
  case round =>
    clear HA1 HB1
    obtain ⟨k, s, hk, hk60, rfl, hA, hM, hp, hs, hB⟩ := hrel
    have hgL := firstL_good HG.out k
    have hlenL := firstL_length zs k
    have hsl : s.length = k := by rw [← hp.length_eq]; exact hlenL
    have HA := Lib.hid hA
    have HM := Lib.hid hM
    have HP := Lib.hid hp
    have HS := Lib.hid hs
    have HB := Lib.hid hB
    have HGL := Lib.hid hgL
    have hbl := RowAt.lt hA
    have HBL := Lib.hid hbl
    have HSL := Lib.hid hsl
    have HLL := Lib.hid hlenL
    obtain ⟨am, cm, hm, -, -, -⟩ := hM.slice
    subst hm
    clear hA hM hp hs hB hgL hbl hsl hlenL
    by_cases hlt : k < len ∧ k < 60
    · obtain ⟨h1, h2⟩ := hlt
      obtain ⟨q, rfl, hq, hcl⟩ := HZ.out (by omega)
      have hx := HG.out k
      obtain ⟨x, hxe⟩ : ∃ x, zs.getD k 0 = x := ⟨_, rfl⟩
      have HX := Lib.hid hxe
      have HC : Hid (∀ w', Below W.heap.size W w' → w'.cell? (q.add k) = some (.int .u64 x)) := fun w' hb' => by
        rw [← hxe]
        exact (hb'.cell (p := q.add k) (by rw [addr_add_block]; exact hq)).trans (hcl k h1)
      rw [hxe] at hx
      obtain ⟨x0, x1⟩ := hx
      have g1 : decide ((k : Int) < (len : Int)) = true := dec_t (by omega)
      have g1' : decide (k < len) = true := dec_t h1
      have g2 : decide ((k : Int) < 60) = true := dec_t (by omega)
      clear hxe hcl hq
      go_wp2_with fail
      refine (copy_any b _ wr HA.out).mono ?_
      rintro e w2 ⟨c, rfl, hc, hAc, hb2⟩
      have c0 := HC.out w2 (below_then HB.out hb2)
      have HAc := Lib.hid hAc
      have HB2 := Lib.hid hb2
      clear hAc hb2
      go_wp2_with fail
      have hA2 := HistAt.ext HA.out HB2.out
      refine (adds_any b (firstL zs k) [x] _ _ _ (RowAt.alloc hA2 _) HGL.out (by intro y hy; simp at hy; subst hy; exact ⟨x0, x1⟩) (by rw [HLL.out]; simp; omega) (sliceAt_one x (RowAt.lt hA2) _)).mono ?_
      rintro e w3 ⟨rfl, hA3, hB3⟩
      have hcb : c ≠ b := by have := HBL.out; omega
      have hAc3 : HistAt w3 c (HsOf (firstL zs k)) := HistAt.but (RowAt.alloc HAc.out _) hB3 hcb
      have hM3 : Lst .u64 w3 (.slice am s.length cm) s (fun g => g ≠ b) := ((HM.out.ext HB2.out).ext (below_new (Below.refl _ _) _)).but hB3 (fun g h => h)
      have hBW : W.heap.size ≤ w2.heap.size := Nat.le_trans HB.out.size HB2.out.size
      have hB3' := below_but (below_new (below_then HB.out HB2.out) _) hB3 hb (Nat.le_trans hBW (by simp))
      have c1 := HC.out w3 hB3'
      rw [← HX.out, ← firstL_succ] at hA3
      have HA3 := Lib.hid hA3
      have HAc3 := Lib.hid hAc3
      have HM3 := Lib.hid hM3
      have HB3 := Lib.hid hB3'
      clear hA3 hAc3 hM3 hB3 hB3' hA2 c0 hBW
      go_wp2_with fail
      refine (alike_any c (firstL zs k) s _ p w3 _ HAc3.out HM3.out HGL.out HP.out HS.out (by rw [HSL.out]; omega) p0 p1).mono ?_
      rintro e w4 ⟨rfl, hb4⟩
      have c2 := HC.out w4 (below_then HB3.out hb4)
      have HB4 := Lib.hid hb4
      clear hb4 c1
      go_wp2_with fail
      refine (rAdd_any _ s x w4 _ (HM3.out.ext HB4.out) (by rw [HSL.out]; omega)).mono ?_
      rintro e w5 ⟨v5, rfl, hM5, hb5⟩
      have HM5 := Lib.hid hM5
      have HB5 := Lib.hid hb5
      clear hM5 hb5 c2
      go_wp2_with fail
      go_roundw
      case measure => simp [intOf]; omega
      case rel =>
        have hA4 := HistAt.ext HA3.out HB4.out
        refine ⟨k + 1, insL s x, by omega, by omega, by simp, HistAt.ext hA4 HB5.out, HM5.out.mono (fun g hg h => ?_), ?_, insL_sorted HS.out x, below_then (below_then HB3.out HB4.out) HB5.out⟩
        · have := RowAt.lt hA4
          omega
        · rw [firstL_succ, HX.out]
          exact ((List.perm_append_comm).trans (HP.out.cons x)).trans (insL_perm s x).symm
    · have fin : ∀ (w3 : World), Below wr.heap.size wr w3 → Calls Try.prog 20 #[.pointer (some ⟨b, 0, none⟩), .slice am s.length cm, .int .i64 p] w3 fun e w' => e = .returned (.bool true) ∧ Below w3.heap.size w3 w' :=
        fun w3 h3 => alike_any b (firstL zs k) s _ p w3 _ (HistAt.ext HA.out h3) (HM.out.ext h3) HGL.out HP.out HS.out (by rw [HSL.out]; omega) p0 p1
      have FIN := Lib.hid fin
      clear fin
      by_cases h1 : k < len
      · have g1 : decide ((k : Int) < (len : Int)) = true := dec_t (by omega)
        have g1' : decide (k < len) = true := dec_t h1
        have g2 : decide ((k : Int) < 60) = false := dec_f (by have : ¬ k < 60 := fun h => hlt ⟨h1, h⟩; omega)
        clear hlt
        go_wp2_with (first | (go_at_call 13; refine (known33 _).mono ?_; rintro e w2 ⟨rfl, hb2⟩) | (go_at_call 20; refine (FIN.out _ hb2).mono ?_; rintro e w3 ⟨rfl, hb3⟩))
        go_ret
        exact ⟨rfl, below_then (below_then HB.out hb2) hb3⟩
      · have g1 : decide ((k : Int) < (len : Int)) = false := dec_f (by omega)
        have g1' : decide (k < len) = false := dec_f h1
        clear hlt
        go_wp2_with (first | (go_at_call 13; refine (known33 _).mono ?_; rintro e w2 ⟨rfl, hb2⟩) | (go_at_call 20; refine (FIN.out _ hb2).mono ?_; rintro e w3 ⟨rfl, hb3⟩))
        go_ret
        exact ⟨rfl, below_then (below_then HB.out hb2) hb3⟩
end Go.Proofs.Ytaihebdjhbnhoaa
