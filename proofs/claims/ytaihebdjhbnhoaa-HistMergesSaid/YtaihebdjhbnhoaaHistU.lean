/- Merged is as if all had been added: the walk of the law HistMerges. -/
import Derived.Test.YtaihebdjhbnhoaaHistT
import Derived.Deep.RegionHeld3
namespace Go.Proofs.Ytaihebdjhbnhoaa
open Go.RowKit
set_option linter.unusedVariables false
set_option linter.unusedSimpArgs false
set_option maxHeartbeats 4000000 in
set_option maxRecDepth 100000 in
theorem merge_none (b : Nat) (w : World) : Calls Try.prog 22 #[.pointer (some ⟨b, 0, none⟩), .pointer none] w fun e w' => e = .returned (.tuple #[]) ∧ w = w' := by
  go_enter Try.func22, Try.ntmps22
  go_wp2_with fail
  refine bodyPost_ret (results_none rfl _ _ _) rfl ?_
  exact ⟨rfl, rfl⟩
theorem insL_perm_snoc {L s : List Int} (h : L.Perm s) (x : Int) : (L ++ [x]).Perm (insL s x) := ((List.perm_append_comm).trans (h.cons x)).trans (insL_perm s x).symm
theorem twiceL_succ (zs : List Int) (k : Nat) : (firstL zs (k + 1) ++ firstL zs (k + 1)).Perm (firstL zs k ++ firstL zs k ++ [zs.getD k 0] ++ [zs.getD k 0]) := by
  rw [firstL_succ]
  generalize firstL zs k = L
  generalize zs.getD k 0 = x
  have h : (L ++ [x] ++ (L ++ [x])).Perm (L ++ (L ++ [x]) ++ [x]) := by
    rw [List.append_assoc L [x], List.append_assoc L (L ++ [x])]
    exact List.Perm.append_left L List.perm_append_comm
  refine h.trans ?_
  rw [List.append_assoc L L [x]]
set_option maxHeartbeats 32000000 in
set_option maxRecDepth 100000 in
theorem HistMerges_walk (a : Option Addr) (lena capa : Nat) (za : List Int) (b : Option Addr) (lenb capb : Nat) (zb : List Int) (p : Int) (W : World) (hcapa : lena ≤ capa) (hlena : capa ≤ 9223372036854775807)
    (hza : 0 < lena → ∃ p, a = some p ∧ p.block < W.heap.size ∧ ∀ k, k < lena → W.cell? (p.add k) = some (.int .u64 (za.getD k 0))) (hga : ∀ k, 0 ≤ za.getD k 0 ∧ za.getD k 0 ≤ 18446744073709551615) (hcapb : lenb ≤ capb) (hlenb : capb ≤ 9223372036854775807)
    (hzb : 0 < lenb → ∃ p, b = some p ∧ p.block < W.heap.size ∧ ∀ k, k < lenb → W.cell? (p.add k) = some (.int .u64 (zb.getD k 0))) (hgb : ∀ k, 0 ≤ zb.getD k 0 ∧ zb.getD k 0 ≤ 18446744073709551615)
    (p0 : -9223372036854775808 ≤ p) (p1 : p ≤ 9223372036854775807) :
    Calls Try.prog 6 #[.slice a lena capa, .slice b lenb capb, .int .i64 p] W fun e w' => e = .returned (.bool true) ∧ Below W.heap.size W w' := by
  obtain ⟨na, hna⟩ : ∃ n, n = min lena 60 := ⟨_, rfl⟩
  have hna1 : na ≤ lena := by omega
  have hna2 : na ≤ 60 := by omega
  have HGa := Lib.hid hga
  have HZa := Lib.hid hza
  have hmna : min (lena : Int) 60 = (na : Int) := by omega
  have hnca : na ≤ capa := by omega
  clear hga hza hna hcapa
  obtain ⟨nb, hnb⟩ : ∃ n, n = min lenb 60 := ⟨_, rfl⟩
  have hnb1 : nb ≤ lenb := by omega
  have hnb2 : nb ≤ 60 := by omega
  have HGb := Lib.hid hgb
  have HZb := Lib.hid hzb
  have hmnb : min (lenb : Int) 60 = (nb : Int) := by omega
  have hncb : nb ≤ capb := by omega
  clear hgb hzb hnb hcapb
  have HGA := Lib.hid (firstL_good HGa.out na)
  have HGB := Lib.hid (firstL_good HGb.out nb)
  have HLA := Lib.hid (firstL_length za na)
  have HLB := Lib.hid (firstL_length zb nb)
  go_enter Try.func6, Try.ntmps6
  refine wp_start (w := W) ?_
  intro x0
  go_wp2_with fail
  refine wp_region_ext _ (by kernel_rfl) (by kernel_rfl) ?_
  repeat (go_big_quiet_step (fail))
  refine wpQuiet_nil ?_
  rintro _ ⟨y0, rfl⟩
  go_wp2_with fail
  refine (new_L _).mono ?_
  rintro e w1 ⟨bx, rfl, hbx, hAx1, hB1⟩
  have HAx1 := Lib.hid hAx1
  have HB1 := Lib.hid (below_then y0.ok hB1)
  have hbxW : W.heap.size ≤ bx := Nat.le_trans y0.ok.size hbx
  clear hAx1 hB1
  go_wp2_with fail
  refine (new_L _).mono ?_
  rintro e w2 ⟨bY, rfl, hby, hAy2, hB2⟩
  have hxy : bx ≠ bY := by have := RowAt.lt HAx1.out; omega
  have hbyW : W.heap.size ≤ bY := by have := RowAt.lt HAx1.out; omega
  have HAx2 := Lib.hid (HistAt.ext HAx1.out hB2)
  have HAy2 := Lib.hid hAy2
  have HB2 := Lib.hid (below_then HB1.out hB2)
  clear hAy2 hB2 hbx hby
  go_wp2_with fail
  have hSa := sliceAt_first HZa.out hna1 HB2.out hbxW
  have hadd := adds_any bx [] (firstL za na) a capa w2 HAx2.out (by intro x hx; cases hx) HGA.out (by rw [HLA.out]; simp; omega) hSa
  rw [HLA.out, List.nil_append] at hadd
  refine hadd.mono ?_
  rintro e w3 ⟨rfl, hAx3, hB3⟩
  have HAx3 := Lib.hid hAx3
  have HAy3 := Lib.hid (HistAt.but HAy2.out hB3 hxy.symm)
  have HB3 := Lib.hid (below_but HB2.out hB3 hbxW HB2.out.size)
  clear hAx3 hB3 hSa hadd
  go_wp2_with fail
  have hSb := sliceAt_first HZb.out hnb1 HB3.out hbyW
  have hadd := adds_any bY [] (firstL zb nb) b capb w3 HAy3.out (by intro x hx; cases hx) HGB.out (by rw [HLB.out]; simp; omega) hSb
  rw [HLB.out, List.nil_append] at hadd
  refine hadd.mono ?_
  rintro e w4 ⟨rfl, hAy4, hB4⟩
  have HAy4 := Lib.hid hAy4
  have HAx4 := Lib.hid (HistAt.but HAx3.out hB4 hxy)
  have HB4 := Lib.hid (below_but HB3.out hB4 hbyW HB3.out.size)
  clear hAy4 hB4 hSb hadd
  go_wp2_with fail
  refine (merge_any bx bY (firstL za na) (firstL zb nb) w4 HAx4.out HAy4.out HGA.out HGB.out (by rw [HLA.out, HLB.out]; omega)).mono ?_
  rintro e w5 ⟨rfl, hAx5, hB5⟩
  have HAx5 := Lib.hid hAx5
  have HAy5 := Lib.hid (HistAt.but HAy4.out hB5 hxy.symm)
  have HB5 := Lib.hid (below_but HB4.out hB5 hbxW HB4.out.size)
  clear hAx5 hB5
  go_wp2_with fail
  refine (merge_none bx w5).mono ?_
  rintro e w6 ⟨rfl, rfl⟩
  go_wp2_with fail
  clear HAx1 HAx2 HAx3 HAx4 HAy2 HAy3 HAy4 HB1 HB2 HB3 HB4
  go_loopw [9, 11] (fun m i wr => ∃ (k : Nat) (s : List Int), k ≤ na ∧ i = .int .i64 k ∧ HistAt wr bx (HsOf (firstL za na ++ firstL zb nb)) ∧ HistAt wr bY (HsOf (firstL zb nb)) ∧ Lst .u64 wr m s (fun g => g ≠ bY) ∧ (firstL za k).Perm s ∧ s.Pairwise (· ≤ ·) ∧ Below W.heap.size W wr) (fun _ i _ => na - (intOf i).toNat)
  case atStart => exact ⟨0, [], by omega, rfl, HAx5.out, HAy5.out, Lst.nil _ _ _, List.Perm.refl _, List.Pairwise.nil, HB5.out⟩
  case round =>
    clear HAx5 HAy5 HB5
    obtain ⟨k, s, hk, rfl, hAx, hAy, hM, hp, hs, hB⟩ := hrel
    have hsl : s.length = k := by rw [← hp.length_eq]; exact firstL_length za k
    have HAx := Lib.hid hAx
    have HAy := Lib.hid hAy
    have HM := Lib.hid hM
    have HP := Lib.hid hp
    have HS := Lib.hid hs
    have HB := Lib.hid hB
    have HSL := Lib.hid hsl
    have HBL := Lib.hid (RowAt.lt hAy)
    obtain ⟨am, cm, hm, -, -, -⟩ := hM.slice
    subst hm
    clear hAx hAy hM hp hs hB hsl
    by_cases h1 : k < na
    · obtain ⟨q, rfl, hq, hcl⟩ := HZa.out (by omega)
      obtain ⟨x, hxe⟩ : ∃ x, za.getD k 0 = x := ⟨_, rfl⟩
      have HX := Lib.hid hxe
      have c0 := (HB.out.cell (p := q.add k) (by rw [addr_add_block]; exact hq)).trans (hcl k (by omega))
      rw [hxe] at c0
      clear hxe hcl hq
      go_wp2_with fail
      refine (rAdd_any _ s x wr _ HM.out (by rw [HSL.out]; omega)).mono ?_
      rintro e w7 ⟨v7, rfl, hM7, hb7⟩
      have HM7 := Lib.hid hM7
      have HB7 := Lib.hid hb7
      clear hM7 hb7 c0
      go_wp2_with fail
      go_roundw
      case measure => simp [intOf]; omega
      case rel =>
        refine ⟨k + 1, insL s x, by omega, by simp, HistAt.ext HAx.out HB7.out, HistAt.ext HAy.out HB7.out, HM7.out.mono (fun g hg h => ?_), ?_, insL_sorted HS.out x, below_then HB.out HB7.out⟩
        · have := HBL.out; omega
        · rw [firstL_succ, HX.out]
          exact insL_perm_snoc HP.out x
    · obtain rfl : k = na := by omega
      go_wp2_with fail
      go_loopw [9, 10, 12] (fun m n i wr => ∃ (j : Nat) (s t : List Int), j ≤ nb ∧ i = .int .i64 j ∧ HistAt wr bx (HsOf (firstL za k ++ firstL zb nb)) ∧ HistAt wr bY (HsOf (firstL zb nb)) ∧ Lst .u64 wr m s (fun g => g ≠ bY) ∧ (firstL za k ++ firstL zb j).Perm s ∧ s.Pairwise (· ≤ ·) ∧ Lst .u64 wr n t (fun g => g ≠ bY) ∧ (firstL zb j ++ firstL zb j).Perm t ∧ t.Pairwise (· ≤ ·) ∧ Below W.heap.size W wr) (fun _ _ i _ => nb - (intOf i).toNat)
      case atStart => exact ⟨0, s, [], by omega, rfl, HAx.out, HAy.out, HM.out, by simpa [firstL] using HP.out, HS.out, Lst.nil _ _ _, List.Perm.refl _, List.Pairwise.nil, HB.out⟩
      case round =>
        clear HAx HAy HM HP HS HB HSL HBL
        obtain ⟨j, s, t, hj, rfl, hAx, hAy, hM, hp, hs, hN, hpt, ht, hB⟩ := hrel
        have hsl : s.length = k + j := by rw [← hp.length_eq, List.length_append, firstL_length, firstL_length]
        have htl : t.length = j + j := by rw [← hpt.length_eq, List.length_append, firstL_length]
        have HAx := Lib.hid hAx
        have HAy := Lib.hid hAy
        have HM := Lib.hid hM
        have HP := Lib.hid hp
        have HS := Lib.hid hs
        have HN := Lib.hid hN
        have HPT := Lib.hid hpt
        have HT := Lib.hid ht
        have HB := Lib.hid hB
        have HSL := Lib.hid hsl
        have HTL := Lib.hid htl
        have HBL := Lib.hid (RowAt.lt hAy)
        obtain ⟨am2, cm2, hm, -, -, -⟩ := hM.slice
        obtain ⟨an, cn, hnn, -, -, -⟩ := hN.slice
        subst hm hnn
        clear hAx hAy hM hp hs hN hpt ht hB hsl htl
        by_cases h2 : j < nb
        · obtain ⟨q, rfl, hq, hcl⟩ := HZb.out (by omega)
          obtain ⟨x, hxe⟩ : ∃ x, zb.getD j 0 = x := ⟨_, rfl⟩
          have HX := Lib.hid hxe
          have HC : Hid (∀ w', Below W.heap.size W w' → w'.cell? (q.add j) = some (.int .u64 x)) := fun w' hb' => by
            rw [← hxe]
            exact (hb'.cell (p := q.add j) (by rw [addr_add_block]; exact hq)).trans (hcl j (by omega))
          have c0 := HC.out _ HB.out
          clear hxe hcl hq
          go_wp2_with fail
          refine (rAdd_any _ s x wr _ HM.out (by rw [HSL.out]; omega)).mono ?_
          rintro e w7 ⟨v7, rfl, hM7, hb7⟩
          have HM7 := Lib.hid hM7
          have HB7 := Lib.hid hb7
          have c1 := HC.out _ (below_then HB.out hb7)
          have j0 : (0 : Int) ≤ (j : Int) := by omega
          have j1 : (j : Int) < (nb : Int) := by omega
          clear hM7 hb7 c0
          go_wp2_with fail
          have HN7 := Lib.hid (HN.out.ext HB7.out)
          have HB77 := Lib.hid (below_then HB.out HB7.out)
          have HKEEP : Hid (∀ w8, Below w7.drew.heap.size w7.drew w8 → w8.cell? (q.add j) = some (.int .u64 x)) := fun w8 h8 => HC.out w8 (below_then HB77.out.drew h8)
          go_region_held3 (fun w' => w'.cell? (q.add j) = some (.int .u64 x))
            (first | go_keep | exact hk8 | exact hk9)
            (first
              | (go_at_call 21; refine (rAdd_any _ (insL t x) x _ _ HM8.out (by rw [insL_length, HTL.out]; omega)).mono ?_; rintro e w9 ⟨v9, rfl, hM9, hb9⟩; have hk9 := HKEEP.out w9 (below_then HB8.out hb9); have HM9 := Lib.hid hM9; have HB9 := Lib.hid hb9; clear hM9 hb9)
              | (go_at_call 21; refine (rAdd_any _ t x _ _ (HN7.out.ext (Below.refl _ _).drew) (by rw [HTL.out]; omega)).mono ?_; rintro e w8 ⟨v8, rfl, hM8, hb8⟩; have hk8 := HKEEP.out w8 hb8; have HM8 := Lib.hid hM8; have HB8 := Lib.hid hb8; clear hM8 hb8))
          go_wp2_with fail
          have hB9 : Below wr.heap.size wr w9 := below_then (below_then (below_then HB7.out (Below.refl _ _).drew) HB8.out) HB9.out
          have hB79 : Below w7.heap.size w7 w9 := below_then (below_then (Below.refl _ _).drew HB8.out) HB9.out
          have hsz8 : wr.heap.size ≤ w8.heap.size := (below_then (below_then HB7.out (Below.refl _ _).drew) HB8.out).size
          refine ⟨⟨j + 1, insL s x, insL (insL t x) x, by omega, by simp, HistAt.ext HAx.out hB9, HistAt.ext HAy.out hB9, (HM7.out.ext hB79).mono (fun g h => ?_), ?_, insL_sorted HS.out x, HM9.out.mono (fun g h => ?_), ?_, insL_sorted (insL_sorted HT.out x) x, below_then HB.out hB9⟩, ?_⟩
          · have := HBL.out; omega
          · rw [firstL_succ, HX.out, ← List.append_assoc]
            exact insL_perm_snoc HP.out x
          · have := HBL.out; omega
          · refine (twiceL_succ zb j).trans ?_
            rw [HX.out]
            exact insL_perm_snoc (insL_perm_snoc HPT.out x) x
          · simp [intOf]; omega
        · obtain rfl : j = nb := by omega
          have cA := alike_any bx (firstL za k ++ firstL zb j) s (.slice am2 s.length cm2) p wr _ HAx.out HM.out (HGA.out.append HGB.out) HP.out HS.out (by rw [HSL.out]; omega) p0 p1
          have CA := Lib.hid cA
          clear cA
          go_wp2_with fail
          refine CA.out.mono ?_
          rintro e w7 ⟨rfl, hb7⟩
          have HB7 := Lib.hid hb7
          clear hb7
          have cC := count_L bY (firstL zb j) w7 (HistAt.ext HAy.out HB7.out) HGB.out
          rw [HLB.out] at cC
          have CC := Lib.hid cC
          clear cC
          go_wp2_with fail
          refine CC.out.mono ?_
          rintro e w8 ⟨rfl, hb8⟩
          have HB8 := Lib.hid hb8
          clear hb8
          go_wp2_with fail
          have hAy8 := HistAt.ext (HistAt.ext HAy.out HB7.out) HB8.out
          refine (merge_any bY bY (firstL zb j) (firstL zb j) w8 hAy8 hAy8 HGB.out HGB.out (by rw [HLB.out]; omega)).mono ?_
          rintro e w9 ⟨rfl, hAy9, hB9⟩
          have HAy9 := Lib.hid hAy9
          have HN9 := Lib.hid (((HN.out.ext HB7.out).ext HB8.out).but hB9 (fun g h => h))
          have hb8 := below_then (below_then HB.out HB7.out) HB8.out
          have HB9 := Lib.hid (below_but hb8 hB9 hbyW hb8.size)
          clear hAy9 hB9 hAy8 hb8
          go_wp2_with fail
          refine (known33 _).mono ?_
          rintro e w10 ⟨rfl, hb10⟩
          have HB10 := Lib.hid hb10
          clear hb10
          go_wp2_with fail
          refine (alike_any bY (firstL zb j ++ firstL zb j) t (.slice an t.length cn) p w10 _ (HistAt.ext HAy9.out HB10.out) (HN9.out.ext HB10.out) (HGB.out.append HGB.out) HPT.out HT.out (by rw [HTL.out]; omega) p0 p1).mono ?_
          rintro e w11 ⟨rfl, hb11⟩
          go_wp2_with fail
          go_ret
          exact ⟨rfl, below_then (below_then HB9.out HB10.out) hb11⟩
end Go.Proofs.Ytaihebdjhbnhoaa
