/- No handle is told twice: the walk. -/
import Derived.Test.YtelnembjcgkiaaaDoorPoK
namespace Go.Proofs.YtelnembjcgkiaaaDoor
open Go.RowKit
set_option linter.unusedVariables false
set_option linter.unusedSimpArgs false
set_option maxHeartbeats 32000000 in
set_option maxRecDepth 100000 in
theorem PoolOnce_walk (rm : Int) (a : Option Addr) (len cap : Nat) (zs : List Int) (w : World) (hT : Tab w) (_ : -9223372036854775808 ≤ rm) (_ : rm ≤ 9223372036854775807) (hlen : len ≤ 9223372036854775807) (hz : 0 < len → ∃ p, a = some p ∧ p.block < w.heap.size ∧ ∀ k, k < len → w.cell? (p.add k) = some (.int .i64 (zs.getD k 0))) (hg : ∀ k, -9223372036854775808 ≤ zs.getD k 0 ∧ zs.getD k 0 ≤ 9223372036854775807) :
    Calls Tryd.prog 3 #[.int .i64 rm, .slice a len cap] w fun e w' => e = .returned (.bool true) ∧ Below w.heap.size w w' := by
  obtain ⟨u, hu, u0, u1⟩ : ∃ u, IntKind.u64.wrap rm = u ∧ 0 ≤ u ∧ u ≤ 18446744073709551615 := ⟨_, rfl, by rw [IntKind.wrap_u64]; omega, by rw [IntKind.wrap_u64]; omega⟩
  obtain ⟨Q, hQ, q0, q1⟩ : ∃ Q, u % 40 = Q ∧ 0 ≤ Q ∧ Q < 40 := ⟨_, rfl, by omega, by omega⟩
  obtain ⟨R, hR, R1, R2⟩ : ∃ R : Nat, 1 + Q = (R : Int) ∧ 1 ≤ R ∧ R ≤ 40 := ⟨(1 + Q).toNat, by omega, by omega, by omega⟩
  have htb := block_lt_tab hT
  have HT := Lib.hid hT
  have HZ := Lib.hid hz
  have HG := Lib.hid hg
  clear hT hz hg
  go_enter Tryd.func3, Tryd.ntmps3
  go_upto_region 3 with (go_at_call 8; refine (new_any R _ R1 (by omega)).mono ?_; rintro e w1 ⟨b, be, bo, bt, rfl, ⟨g0, g1, g2, g3⟩, hA, hB⟩)
  clear hu u0 u1 hQ q0 q1 hR
  have hC : PoC w w1.heap.size b be bo bt := by
    obtain ⟨M1, k1, M2, k2, ws, q⟩ := hA
    exact ⟨htb, ⟨g1, g2, g3, g0⟩, q.row.lt, q.m1.lt, q.m2.lt, q.row3.lt⟩
  have hW0 : PoW w w1.heap.size b be bo bt (Po.new R) (.slice none 0 0) [] (.slice none 0 0) [] w1 := ⟨hA, HT.out.ext hB, hB, ⟨by simp, .inl ⟨rfl, rfl⟩⟩, ⟨by simp, .inl ⟨rfl, rfl⟩⟩, fun g hg => by simp [Value.ownBlock] at hg, Nat.le_refl _⟩
  have HWB := Lib.hid hB.size
  obtain ⟨base, hbase⟩ : ∃ B, w1.heap.size = B := ⟨_, rfl⟩
  rw [hbase] at hC hW0 HWB
  have HC := Lib.hid hC
  have HW0 := Lib.hid hW0
  have HI0 := Lib.hid (Inv.start R1 (show R ≤ 4096 by omega))
  clear hC hW0 hA hB g0 g1 g2 g3 hbase htb HT
  go_upto_region 7 with fail
  go_loopw [7, 8, 9] (fun t g i wr => ∃ (n : Nat) (p : Po) (T G : List Int), n ≤ len ∧ n ≤ 200 ∧ i = .int .i64 n ∧ Inv p R n n T G ∧ PoW w base b be bo bt p t T g G wr) (fun _ _ i _ => len - (intOf i).toNat)
  case atStart => exact ⟨0, Po.new R, [], [], by omega, by omega, rfl, HI0.out, HW0.out⟩
  case round =>
    clear HI0 HW0
    obtain ⟨n, p, T, G, hn1, hn2, rfl, hI, hW⟩ := hrel
    obtain ⟨a1, c1, rfl⟩ := own_slice hW.o1
    obtain ⟨a2, c2, rfl⟩ := own_slice hW.o2
    have HI := Lib.hid hI
    have HW := Lib.hid hW
    clear hI hW
    by_cases hgo : n < len ∧ n < 200
    · obtain ⟨hgo1, hgo2⟩ := hgo
      have hlt1 : decide ((n : Int) < (len : Int)) = true := dec_t (by omega)
      have hlt2 : decide ((n : Int) < 200) = true := dec_t (by omega)
      have n0 : (0 : Int) ≤ (n : Int) := by omega
      have n1 : (n : Int) < (len : Int) := by omega
      have nb : IntKind.u64.wrap (n : Int) = (n : Int) := by rw [IntKind.wrap_u64]; omega
      have hln := HI.out.len
      have htl := HI.out.tl
      have hcl := HI.out.cnt_le
      obtain ⟨q, rfl, hqb, hqc⟩ := HZ.out (by omega)
      have cd : ∀ W, Below w.heap.size w W → W.cell? (q.add n) = some (.int .i64 (zs.getD n 0)) := fun W hb => (hb.cell (by rw [addr_add_block]; exact hqb)).trans (hqc n (by omega))
      obtain ⟨d, hde⟩ : ∃ d, zs.getD n 0 = d := ⟨_, rfl⟩
      obtain ⟨d2, d3⟩ := HG.out n
      rw [hde] at cd d2 d3
      have HCD := Lib.hid cd
      clear cd hde hqc
      have lw : wrap64 ((T.length : Int) - (G.length : Int)) = (T.length : Int) - (G.length : Int) := by unfold wrap64; omega
      by_cases hfr : p.cnt < R
      · obtain ⟨x, hx, hf, hlow⟩ := exists_free (p := p) (by rw [HI.out.room]; exact hfr)
        rw [HI.out.room] at hx
        have f1 : decide ((T.length : Int) - (G.length : Int) < (R : Int)) = true := dec_t (by omega)
        clear hln
        go_upto_region 10 with (go_at_call 9; refine (put_free b be bo bt p _ HW.out.pat HI.out.ok HW.out.tab 0 0 (n : Int) x (by rw [HI.out.room]; exact hx) hf hlow).mono ?_; rintro e w2 ⟨rfl, hp2, ho2⟩)
        have HFR := Lib.hid (fun v (hm : v ∈ T) => HI.out.fresh hx hf hm)
        have HW2 := Lib.hid (HW.out.pool HC.out ho2 hp2)
        have HI2 := Lib.hid (HI.out.put hx hf (0, 0, (n : Int)))
        obtain ⟨H, hH⟩ : ∃ H, hv p (x : Int) = H := ⟨_, rfl⟩
        rw [hH] at HI2 HFR ⊢
        obtain ⟨p2, hp2e⟩ : ∃ p2, p.put x (0, 0, (n : Int)) = p2 := ⟨_, rfl⟩
        rw [hp2e] at HW2 HI2
        clear HW hp2 ho2 hH hp2e hlow
        have HW := HW2
        clear HW2
        go_upto_region 14 with fail
        go_loopw [12] (fun k wr => ∃ (j : Nat), j ≤ T.length ∧ k = .int .i64 j ∧ wr = w2) (fun k _ => T.length - (intOf k).toNat)
        case atStart => exact ⟨0, by omega, rfl, rfl⟩
        case round =>
          obtain ⟨j, hj, rfl, rfl⟩ := hrel
          by_cases hjl : j < T.length
          · obtain ⟨y, hy⟩ : ∃ y, T[j]? = some y := ⟨_, List.getElem?_eq_getElem hjl⟩
            have hne := HFR.out y (List.mem_of_getElem? hy)
            have ne1 : (y == H) = false := beq_f hne
            obtain ⟨g, cg, hsl, hgl, hgc⟩ := own_cell HW.out.o1 (by omega)
            have ea : a1 = some ⟨g, 0, none⟩ := by injection hsl
            subst ea
            have cy := hgc j y hy
            have dj : decide ((j : Int) < (T.length : Int)) = true := dec_t (by omega)
            have j0 : (0 : Int) ≤ (j : Int) := by omega
            have j1 : (j : Int) < (T.length : Int) := by omega
            clear hy hsl hgc hne
            go_wp2_with fail
            go_roundw
            case measure => simp [intOf]; omega
            case rel => exact ⟨j + 1, by omega, by go_num, by first | rfl | trivial⟩
          · obtain rfl : j = T.length := by omega
            have dj : decide ((T.length : Int) < (T.length : Int)) = false := dec_f (by omega)
            have HI := HI2
            go_upto_region 19 with (at_builtin; refine wpList_grow1_at rfl (.tmp 75) (.tmp 77) 28 rfl base 23 1 8 Tryd.underlying28 (by kernel_rfl) (by decide) (by decide) _ _ _ rfl HW.out.o1 [.int .u64 H] rfl rfl (by simp [Value.oneCell']) (by have := HI.out.tl; have := HI.out.len; omega) HW.out.sz _ ?_; intro v' w' hown' ho' hat')
            have HW5 := Lib.hid (HW.out.grow1 HC.out HWB.out hown' ho' hat')
            clear HW hown' ho' hat' HI
            obtain ⟨T', hTe⟩ : ∃ T', T ++ [H] = T' := ⟨_, rfl⟩
            rw [hTe] at HW5 HI2
            have HW := HW5
            have HI := HI2
            clear HW5 HI2 hTe HFR
            obtain ⟨a1', c1', rfl⟩ := own_slice HW.out.o1
            have cd := HCD.out _ HW.out.bel
            by_cases hd : 0 ≤ d ∧ 0 < T'.length
            · obtain ⟨d0, hTp⟩ := hd
              have t1 : decide (0 ≤ d) = true := dec_t d0
              have t2 : decide ((0 : Int) < (T'.length : Int)) = true := dec_t (by omega)
              have t3 : decide (0 < T'.length) = true := dec_t hTp
              obtain ⟨m, hm, hml⟩ : ∃ m : Nat, d % (T'.length : Int) = (m : Int) ∧ m < T'.length := by
                have h1 := Int.emod_nonneg d (b := (T'.length : Int)) (by omega)
                have h2 := Int.emod_lt_of_pos d (b := (T'.length : Int)) (by omega)
                exact ⟨(d % (T'.length : Int)).toNat, by omega, by omega⟩
              have hm2 : d.tmod (T'.length : Int) = (m : Int) := by rw [Int.tmod_eq_emod_of_nonneg d0, hm]
              have hTz : ((T'.length : Int) == 0) = false := beq_f (by omega)
              have hTz2 : ¬ ((T'.length : Int) = 0) := by omega
              have m0 : (0 : Int) ≤ (m : Int) := by omega
              have m1 : (m : Int) < (T'.length : Int) := by omega
              have htl0 := HI.out.tl
              have mw : wrap64 (m : Int) = (m : Int) := by unfold wrap64; omega
              obtain ⟨y, hy⟩ : ∃ y, T'[m]? = some y := ⟨_, List.getElem?_eq_getElem hml⟩
              have hym : y ∈ T' := List.mem_of_getElem? hy
              obtain ⟨g, cg, hsl, hgl, hgc⟩ := own_cell HW.out.o1 hTp
              have ea : a1' = some ⟨g, 0, none⟩ := by injection hsl
              subst ea
              have cy := hgc m y hy
              obtain ⟨y0, y1⟩ := HI.out.range (by omega) hym
              have hei := HI.out.either hym
              clear hy hym hsl hgc
              go_upto_region 21 with fail
              rcases hei with hdead | ⟨x, hx, ht, rfl⟩
              · go_upto_region 23 with (go_at_call 10; refine (drop_no b be bo bt p2 _ HW.out.pat HI.out.ok y y0 y1 hdead).mono ?_; rintro e w4 ⟨rfl, hb4⟩)
                have HW4 := Lib.hid (HW.out.ext hb4)
                have HI4 := Lib.hid (HI.out.mono (Nat.le_refl _) (Nat.le_succ n))
                clear HW HI hb4 hdead cy
                have HW := HW4
                have HI := HI4
                clear HW4 HI4
                have hcl := HI.out.cnt_le
                have hln := HI.out.len
                have htl := HI.out.tl
                have e1 : ((p2.cnt : Int) != (T'.length : Int) - (G.length : Int)) = false := bne_f (by omega)
                have e2 : decide ((R : Int) < (p2.cnt : Int)) = false := dec_f (by omega)
                have lw : wrap64 ((T'.length : Int) - (G.length : Int)) = (T'.length : Int) - (G.length : Int) := by unfold wrap64; omega
                have gl : G.length ≤ 1000 := by omega
                clear hln
                go_upto_region 24 with fail
                go_loopw [14] (fun k wr => ∃ (j : Nat), j ≤ G.length ∧ k = .int .i64 j ∧ PoW w base b be bo bt p2 (.slice (some ⟨g, 0, none⟩) T'.length c1') T' (.slice a2 G.length c2) G wr) (fun k _ => G.length - (intOf k).toNat)
                case atStart => exact ⟨0, by omega, rfl, HW.out⟩
                case round =>
                  clear HW
                  obtain ⟨j, hj, rfl, hW⟩ := hrel
                  by_cases hjl : j < G.length
                  · obtain ⟨x, hx⟩ : ∃ x, G[j]? = some x := ⟨_, List.getElem?_eq_getElem hjl⟩
                    have hxm : x ∈ G := List.mem_of_getElem? hx
                    obtain ⟨g, cg, hsl, hgl, hgc⟩ := own_cell hW.o2 (by omega)
                    have ea : a2 = some ⟨g, 0, none⟩ := by injection hsl
                    subst ea
                    have cx := hgc j x hx
                    have hdead := HI.out.dead hxm
                    obtain ⟨x0, x1⟩ := HI.out.rangeG (by omega) hxm
                    have dj : decide ((j : Int) < (G.length : Int)) = true := dec_t (by omega)
                    have j0 : (0 : Int) ≤ (j : Int) := by omega
                    have j1 : (j : Int) < (G.length : Int) := by omega
                    have HX := Lib.hid hdead
                    have HW := Lib.hid hW
                    clear hx hxm hsl hgc hdead hW
                    go_upto_region 27 with (go_at_call 11; refine (get_no b be bo bt p2 _ HW.out.pat HI.out.ok x x0 x1 HX.out).mono ?_; rintro e w7 ⟨rfl, hb7⟩)
                    refine wp_name (Pr := fun W => Below wr.heap.size wr W ∧ W.cell? ⟨g, j, none⟩ = some (.int .u64 x)) ⟨below_new hb7 _, ((below_new hb7 _).cell (p := ⟨g, j, none⟩) hgl).trans cx⟩ ?_
                    clear cx hb7
                    rintro W7 ⟨hb7, cx⟩
                    have HW7 := Lib.hid (HW.out.ext hb7)
                    clear HW hb7
                    go_wp2_with (go_at_call 12; refine (place_no b be bo bt p2 _ HW7.out.pat HI.out.ok x x0 x1 HX.out).mono ?_; rintro e w8 ⟨rfl, hb8⟩)
                    go_roundw
                    case measure => simp [intOf]; omega
                    case rel => exact ⟨j + 1, by omega, by go_num, HW7.out.ext hb8⟩
                  · obtain rfl : j = G.length := by omega
                    have dj : decide ((G.length : Int) < (G.length : Int)) = false := dec_f (by omega)
                    have HW := Lib.hid hW
                    clear hW
                    go_wp2_with (go_at_call 13; refine (live_any b be bo bt p2 _ HW.out.pat).mono ?_; rintro e w9 ⟨rfl, hb9⟩; have HW9 := Lib.hid (HW.out.ext hb9); clear HW hb9; have HW := HW9; clear HW9)
                    go_roundw
                    case measure => simp [intOf]; omega
                    case rel => exact ⟨n + 1, p2, T', G, by omega, by omega, by go_num, HI.out, HW.out⟩

              · go_upto_region 22 with (go_at_call 10; refine (drop_yes b be bo bt p2 _ HW.out.pat HI.out.ok x (by rw [HI.out.room]; exact hx) ht).mono ?_; rintro e w4 ⟨rfl, hp4, ho4⟩)
                have HW4 := Lib.hid (HW.out.pool HC.out ho4 hp4)
                have HI4 := Lib.hid (HI.out.drop (by omega) hx ht)
                have hgl2 : G.length ≤ 1000 := by have := HI.out.len; omega
                obtain ⟨y, hye⟩ : ∃ y, hv p2 (x : Int) = y := ⟨_, rfl⟩
                rw [hye] at HI4 y0 y1 ⊢
                obtain ⟨p', hpe⟩ : ∃ p', p2.drop x = p' := ⟨_, rfl⟩
                rw [hpe] at HW4 HI4
                clear HW HI hp4 ho4 cy hye hpe ht
                have HW := HW4
                clear HW4
                go_upto_region 23 with (at_builtin; refine wpList_grow1_at rfl (.tmp 102) (.tmp 104) 28 rfl base 23 1 8 Tryd.underlying28 (by kernel_rfl) (by decide) (by decide) _ _ _ rfl HW.out.o2 [.int .u64 y] rfl rfl (by simp [Value.oneCell']) (by have := HI4.out.tl; have := HI4.out.len; omega) HW.out.sz _ ?_; intro v' w' hown' ho' hat')
                have HW5 := Lib.hid (HW.out.grow2 HC.out HWB.out hown' ho' hat')
                clear HW hown' ho' hat'
                obtain ⟨G', hGe⟩ : ∃ G', G ++ [y] = G' := ⟨_, rfl⟩
                rw [hGe] at HW5 HI4
                have HW := HW5
                have HI := HI4
                clear HW5 HI4 hGe
                obtain ⟨a2', c2', rfl⟩ := own_slice HW.out.o2
                have hcl := HI.out.cnt_le
                have hln := HI.out.len
                have htl := HI.out.tl
                have e1 : ((p'.cnt : Int) != (T'.length : Int) - (G'.length : Int)) = false := bne_f (by omega)
                have e2 : decide ((R : Int) < (p'.cnt : Int)) = false := dec_f (by omega)
                have lw : wrap64 ((T'.length : Int) - (G'.length : Int)) = (T'.length : Int) - (G'.length : Int) := by unfold wrap64; omega
                have gl : G'.length ≤ 1000 := by omega
                clear hln
                go_upto_region 24 with fail
                go_loopw [14] (fun k wr => ∃ (j : Nat), j ≤ G'.length ∧ k = .int .i64 j ∧ PoW w base b be bo bt p' (.slice (some ⟨g, 0, none⟩) T'.length c1') T' (.slice a2' G'.length c2') G' wr) (fun k _ => G'.length - (intOf k).toNat)
                case atStart => exact ⟨0, by omega, rfl, HW.out⟩
                case round =>
                  clear HW
                  obtain ⟨j, hj, rfl, hW⟩ := hrel
                  by_cases hjl : j < G'.length
                  · obtain ⟨x, hx⟩ : ∃ x, G'[j]? = some x := ⟨_, List.getElem?_eq_getElem hjl⟩
                    have hxm : x ∈ G' := List.mem_of_getElem? hx
                    obtain ⟨g, cg, hsl, hgl, hgc⟩ := own_cell hW.o2 (by omega)
                    have ea : a2' = some ⟨g, 0, none⟩ := by injection hsl
                    subst ea
                    have cx := hgc j x hx
                    have hdead := HI.out.dead hxm
                    obtain ⟨x0, x1⟩ := HI.out.rangeG (by omega) hxm
                    have dj : decide ((j : Int) < (G'.length : Int)) = true := dec_t (by omega)
                    have j0 : (0 : Int) ≤ (j : Int) := by omega
                    have j1 : (j : Int) < (G'.length : Int) := by omega
                    have HX := Lib.hid hdead
                    have HW := Lib.hid hW
                    clear hx hxm hsl hgc hdead hW
                    go_upto_region 27 with (go_at_call 11; refine (get_no b be bo bt p' _ HW.out.pat HI.out.ok x x0 x1 HX.out).mono ?_; rintro e w7 ⟨rfl, hb7⟩)
                    refine wp_name (Pr := fun W => Below wr.heap.size wr W ∧ W.cell? ⟨g, j, none⟩ = some (.int .u64 x)) ⟨below_new hb7 _, ((below_new hb7 _).cell (p := ⟨g, j, none⟩) hgl).trans cx⟩ ?_
                    clear cx hb7
                    rintro W7 ⟨hb7, cx⟩
                    have HW7 := Lib.hid (HW.out.ext hb7)
                    clear HW hb7
                    go_wp2_with (go_at_call 12; refine (place_no b be bo bt p' _ HW7.out.pat HI.out.ok x x0 x1 HX.out).mono ?_; rintro e w8 ⟨rfl, hb8⟩)
                    go_roundw
                    case measure => simp [intOf]; omega
                    case rel => exact ⟨j + 1, by omega, by go_num, HW7.out.ext hb8⟩
                  · obtain rfl : j = G'.length := by omega
                    have dj : decide ((G'.length : Int) < (G'.length : Int)) = false := dec_f (by omega)
                    have HW := Lib.hid hW
                    clear hW
                    go_wp2_with (go_at_call 13; refine (live_any b be bo bt p' _ HW.out.pat).mono ?_; rintro e w9 ⟨rfl, hb9⟩; have HW9 := Lib.hid (HW.out.ext hb9); clear HW hb9; have HW := HW9; clear HW9)
                    go_roundw
                    case measure => simp [intOf]; omega
                    case rel => exact ⟨n + 1, p', T', G', by omega, by omega, by go_num, HI.out, HW.out⟩

            · have t1 : (decide (0 ≤ d) && decide ((0 : Int) < (T'.length : Int))) = false := by
                by_cases h : 0 ≤ d
                · rw [dec_t h, dec_f (p := (0 : Int) < (T'.length : Int)) (by omega)]; rfl
                · rw [dec_f h]; rfl
              have HI4 := Lib.hid (HI.out.mono (Nat.le_refl _) (Nat.le_succ n))
              clear HI
              have HI := HI4
              clear HI4
              rcases Bool.eq_false_or_eq_true (decide (0 ≤ d)) with q1 | q1
              · have q2 : decide ((0 : Int) < (T'.length : Int)) = false := by rw [q1] at t1; simpa using t1
                have q3 : decide (0 < T'.length) = false := dec_f (by intro h; exact hd ⟨of_decide_eq_true q1, h⟩)
                clear t1 hd
                go_upto_region 23 with fail
                have hcl := HI.out.cnt_le
                have hln := HI.out.len
                have htl := HI.out.tl
                have e1 : ((p2.cnt : Int) != (T'.length : Int) - (G.length : Int)) = false := bne_f (by omega)
                have e2 : decide ((R : Int) < (p2.cnt : Int)) = false := dec_f (by omega)
                have lw : wrap64 ((T'.length : Int) - (G.length : Int)) = (T'.length : Int) - (G.length : Int) := by unfold wrap64; omega
                have gl : G.length ≤ 1000 := by omega
                clear hln
                go_upto_region 24 with fail
                go_loopw [14] (fun k wr => ∃ (j : Nat), j ≤ G.length ∧ k = .int .i64 j ∧ PoW w base b be bo bt p2 (.slice a1' T'.length c1') T' (.slice a2 G.length c2) G wr) (fun k _ => G.length - (intOf k).toNat)
                case atStart => exact ⟨0, by omega, rfl, HW.out⟩
                case round =>
                  clear HW
                  obtain ⟨j, hj, rfl, hW⟩ := hrel
                  by_cases hjl : j < G.length
                  · obtain ⟨x, hx⟩ : ∃ x, G[j]? = some x := ⟨_, List.getElem?_eq_getElem hjl⟩
                    have hxm : x ∈ G := List.mem_of_getElem? hx
                    obtain ⟨g, cg, hsl, hgl, hgc⟩ := own_cell hW.o2 (by omega)
                    have ea : a2 = some ⟨g, 0, none⟩ := by injection hsl
                    subst ea
                    have cx := hgc j x hx
                    have hdead := HI.out.dead hxm
                    obtain ⟨x0, x1⟩ := HI.out.rangeG (by omega) hxm
                    have dj : decide ((j : Int) < (G.length : Int)) = true := dec_t (by omega)
                    have j0 : (0 : Int) ≤ (j : Int) := by omega
                    have j1 : (j : Int) < (G.length : Int) := by omega
                    have HX := Lib.hid hdead
                    have HW := Lib.hid hW
                    clear hx hxm hsl hgc hdead hW
                    go_upto_region 27 with (go_at_call 11; refine (get_no b be bo bt p2 _ HW.out.pat HI.out.ok x x0 x1 HX.out).mono ?_; rintro e w7 ⟨rfl, hb7⟩)
                    refine wp_name (Pr := fun W => Below wr.heap.size wr W ∧ W.cell? ⟨g, j, none⟩ = some (.int .u64 x)) ⟨below_new hb7 _, ((below_new hb7 _).cell (p := ⟨g, j, none⟩) hgl).trans cx⟩ ?_
                    clear cx hb7
                    rintro W7 ⟨hb7, cx⟩
                    have HW7 := Lib.hid (HW.out.ext hb7)
                    clear HW hb7
                    go_wp2_with (go_at_call 12; refine (place_no b be bo bt p2 _ HW7.out.pat HI.out.ok x x0 x1 HX.out).mono ?_; rintro e w8 ⟨rfl, hb8⟩)
                    go_roundw
                    case measure => simp [intOf]; omega
                    case rel => exact ⟨j + 1, by omega, by go_num, HW7.out.ext hb8⟩
                  · obtain rfl : j = G.length := by omega
                    have dj : decide ((G.length : Int) < (G.length : Int)) = false := dec_f (by omega)
                    have HW := Lib.hid hW
                    clear hW
                    go_wp2_with (go_at_call 13; refine (live_any b be bo bt p2 _ HW.out.pat).mono ?_; rintro e w9 ⟨rfl, hb9⟩; have HW9 := Lib.hid (HW.out.ext hb9); clear HW hb9; have HW := HW9; clear HW9)
                    go_roundw
                    case measure => simp [intOf]; omega
                    case rel => exact ⟨n + 1, p2, T', G, by omega, by omega, by go_num, HI.out, HW.out⟩

              · clear t1 hd
                go_upto_region 23 with fail
                have hcl := HI.out.cnt_le
                have hln := HI.out.len
                have htl := HI.out.tl
                have e1 : ((p2.cnt : Int) != (T'.length : Int) - (G.length : Int)) = false := bne_f (by omega)
                have e2 : decide ((R : Int) < (p2.cnt : Int)) = false := dec_f (by omega)
                have lw : wrap64 ((T'.length : Int) - (G.length : Int)) = (T'.length : Int) - (G.length : Int) := by unfold wrap64; omega
                have gl : G.length ≤ 1000 := by omega
                clear hln
                go_upto_region 24 with fail
                go_loopw [14] (fun k wr => ∃ (j : Nat), j ≤ G.length ∧ k = .int .i64 j ∧ PoW w base b be bo bt p2 (.slice a1' T'.length c1') T' (.slice a2 G.length c2) G wr) (fun k _ => G.length - (intOf k).toNat)
                case atStart => exact ⟨0, by omega, rfl, HW.out⟩
                case round =>
                  clear HW
                  obtain ⟨j, hj, rfl, hW⟩ := hrel
                  by_cases hjl : j < G.length
                  · obtain ⟨x, hx⟩ : ∃ x, G[j]? = some x := ⟨_, List.getElem?_eq_getElem hjl⟩
                    have hxm : x ∈ G := List.mem_of_getElem? hx
                    obtain ⟨g, cg, hsl, hgl, hgc⟩ := own_cell hW.o2 (by omega)
                    have ea : a2 = some ⟨g, 0, none⟩ := by injection hsl
                    subst ea
                    have cx := hgc j x hx
                    have hdead := HI.out.dead hxm
                    obtain ⟨x0, x1⟩ := HI.out.rangeG (by omega) hxm
                    have dj : decide ((j : Int) < (G.length : Int)) = true := dec_t (by omega)
                    have j0 : (0 : Int) ≤ (j : Int) := by omega
                    have j1 : (j : Int) < (G.length : Int) := by omega
                    have HX := Lib.hid hdead
                    have HW := Lib.hid hW
                    clear hx hxm hsl hgc hdead hW
                    go_upto_region 27 with (go_at_call 11; refine (get_no b be bo bt p2 _ HW.out.pat HI.out.ok x x0 x1 HX.out).mono ?_; rintro e w7 ⟨rfl, hb7⟩)
                    refine wp_name (Pr := fun W => Below wr.heap.size wr W ∧ W.cell? ⟨g, j, none⟩ = some (.int .u64 x)) ⟨below_new hb7 _, ((below_new hb7 _).cell (p := ⟨g, j, none⟩) hgl).trans cx⟩ ?_
                    clear cx hb7
                    rintro W7 ⟨hb7, cx⟩
                    have HW7 := Lib.hid (HW.out.ext hb7)
                    clear HW hb7
                    go_wp2_with (go_at_call 12; refine (place_no b be bo bt p2 _ HW7.out.pat HI.out.ok x x0 x1 HX.out).mono ?_; rintro e w8 ⟨rfl, hb8⟩)
                    go_roundw
                    case measure => simp [intOf]; omega
                    case rel => exact ⟨j + 1, by omega, by go_num, HW7.out.ext hb8⟩
                  · obtain rfl : j = G.length := by omega
                    have dj : decide ((G.length : Int) < (G.length : Int)) = false := dec_f (by omega)
                    have HW := Lib.hid hW
                    clear hW
                    go_wp2_with (go_at_call 13; refine (live_any b be bo bt p2 _ HW.out.pat).mono ?_; rintro e w9 ⟨rfl, hb9⟩; have HW9 := Lib.hid (HW.out.ext hb9); clear HW hb9; have HW := HW9; clear HW9)
                    go_roundw
                    case measure => simp [intOf]; omega
                    case rel => exact ⟨n + 1, p2, T', G, by omega, by omega, by go_num, HI.out, HW.out⟩


      · have f1 : decide ((T.length : Int) - (G.length : Int) < (R : Int)) = false := dec_f (by omega)
        clear hln
        go_upto_region 10 with (go_at_call 9; refine (put_full b be bo bt p _ HW.out.pat HI.out.ok HW.out.tab 0 0 (n : Int) (all_taken (by rw [HI.out.room]; exact hfr))).mono ?_; rintro e w2 ⟨rfl, hb2⟩)
        have HW2 := Lib.hid (HW.out.ext hb2)
        have HI2 := Lib.hid (HI.out.mono (Nat.le_succ n) (Nat.le_refl _))
        clear HW HI hb2
        have HW := HW2
        have HI := HI2
        clear HW2 HI2
        have cd := HCD.out _ HW.out.bel
        go_upto_region 19 with fail
        rw [lw]
        by_cases hd : 0 ≤ d ∧ 0 < T.length
        · obtain ⟨d0, hTp⟩ := hd
          have t1 : decide (0 ≤ d) = true := dec_t d0
          have t2 : decide ((0 : Int) < (T.length : Int)) = true := dec_t (by omega)
          have t3 : decide (0 < T.length) = true := dec_t hTp
          obtain ⟨m, hm, hml⟩ : ∃ m : Nat, d % (T.length : Int) = (m : Int) ∧ m < T.length := by
            have h1 := Int.emod_nonneg d (b := (T.length : Int)) (by omega)
            have h2 := Int.emod_lt_of_pos d (b := (T.length : Int)) (by omega)
            exact ⟨(d % (T.length : Int)).toNat, by omega, by omega⟩
          have hm2 : d.tmod (T.length : Int) = (m : Int) := by rw [Int.tmod_eq_emod_of_nonneg d0, hm]
          have hTz : ((T.length : Int) == 0) = false := beq_f (by omega)
          have hTz2 : ¬ ((T.length : Int) = 0) := by omega
          have m0 : (0 : Int) ≤ (m : Int) := by omega
          have m1 : (m : Int) < (T.length : Int) := by omega
          have htl0 := HI.out.tl
          have mw : wrap64 (m : Int) = (m : Int) := by unfold wrap64; omega
          obtain ⟨y, hy⟩ : ∃ y, T[m]? = some y := ⟨_, List.getElem?_eq_getElem hml⟩
          have hym : y ∈ T := List.mem_of_getElem? hy
          obtain ⟨g, cg, hsl, hgl, hgc⟩ := own_cell HW.out.o1 hTp
          have ea : a1 = some ⟨g, 0, none⟩ := by injection hsl
          subst ea
          have cy := hgc m y hy
          obtain ⟨y0, y1⟩ := HI.out.range (by omega) hym
          have hei := HI.out.either hym
          clear hy hym hsl hgc
          go_upto_region 21 with fail
          rcases hei with hdead | ⟨x, hx, ht, rfl⟩
          · go_upto_region 23 with (go_at_call 10; refine (drop_no b be bo bt p _ HW.out.pat HI.out.ok y y0 y1 hdead).mono ?_; rintro e w4 ⟨rfl, hb4⟩)
            have HW4 := Lib.hid (HW.out.ext hb4)
            have HI4 := Lib.hid (HI.out.mono (Nat.le_refl _) (Nat.le_succ n))
            clear HW HI hb4 hdead cy
            have HW := HW4
            have HI := HI4
            clear HW4 HI4
            have hcl := HI.out.cnt_le
            have hln := HI.out.len
            have htl := HI.out.tl
            have e1 : ((p.cnt : Int) != (T.length : Int) - (G.length : Int)) = false := bne_f (by omega)
            have e2 : decide ((R : Int) < (p.cnt : Int)) = false := dec_f (by omega)
            have lw : wrap64 ((T.length : Int) - (G.length : Int)) = (T.length : Int) - (G.length : Int) := by unfold wrap64; omega
            have gl : G.length ≤ 1000 := by omega
            clear hln
            go_upto_region 24 with fail
            go_loopw [14] (fun k wr => ∃ (j : Nat), j ≤ G.length ∧ k = .int .i64 j ∧ PoW w base b be bo bt p (.slice (some ⟨g, 0, none⟩) T.length c1) T (.slice a2 G.length c2) G wr) (fun k _ => G.length - (intOf k).toNat)
            case atStart => exact ⟨0, by omega, rfl, HW.out⟩
            case round =>
              clear HW
              obtain ⟨j, hj, rfl, hW⟩ := hrel
              by_cases hjl : j < G.length
              · obtain ⟨x, hx⟩ : ∃ x, G[j]? = some x := ⟨_, List.getElem?_eq_getElem hjl⟩
                have hxm : x ∈ G := List.mem_of_getElem? hx
                obtain ⟨g, cg, hsl, hgl, hgc⟩ := own_cell hW.o2 (by omega)
                have ea : a2 = some ⟨g, 0, none⟩ := by injection hsl
                subst ea
                have cx := hgc j x hx
                have hdead := HI.out.dead hxm
                obtain ⟨x0, x1⟩ := HI.out.rangeG (by omega) hxm
                have dj : decide ((j : Int) < (G.length : Int)) = true := dec_t (by omega)
                have j0 : (0 : Int) ≤ (j : Int) := by omega
                have j1 : (j : Int) < (G.length : Int) := by omega
                have HX := Lib.hid hdead
                have HW := Lib.hid hW
                clear hx hxm hsl hgc hdead hW
                go_upto_region 27 with (go_at_call 11; refine (get_no b be bo bt p _ HW.out.pat HI.out.ok x x0 x1 HX.out).mono ?_; rintro e w7 ⟨rfl, hb7⟩)
                refine wp_name (Pr := fun W => Below wr.heap.size wr W ∧ W.cell? ⟨g, j, none⟩ = some (.int .u64 x)) ⟨below_new hb7 _, ((below_new hb7 _).cell (p := ⟨g, j, none⟩) hgl).trans cx⟩ ?_
                clear cx hb7
                rintro W7 ⟨hb7, cx⟩
                have HW7 := Lib.hid (HW.out.ext hb7)
                clear HW hb7
                go_wp2_with (go_at_call 12; refine (place_no b be bo bt p _ HW7.out.pat HI.out.ok x x0 x1 HX.out).mono ?_; rintro e w8 ⟨rfl, hb8⟩)
                go_roundw
                case measure => simp [intOf]; omega
                case rel => exact ⟨j + 1, by omega, by go_num, HW7.out.ext hb8⟩
              · obtain rfl : j = G.length := by omega
                have dj : decide ((G.length : Int) < (G.length : Int)) = false := dec_f (by omega)
                have HW := Lib.hid hW
                clear hW
                go_wp2_with (go_at_call 13; refine (live_any b be bo bt p _ HW.out.pat).mono ?_; rintro e w9 ⟨rfl, hb9⟩; have HW9 := Lib.hid (HW.out.ext hb9); clear HW hb9; have HW := HW9; clear HW9)
                go_roundw
                case measure => simp [intOf]; omega
                case rel => exact ⟨n + 1, p, T, G, by omega, by omega, by go_num, HI.out, HW.out⟩

          · go_upto_region 22 with (go_at_call 10; refine (drop_yes b be bo bt p _ HW.out.pat HI.out.ok x (by rw [HI.out.room]; exact hx) ht).mono ?_; rintro e w4 ⟨rfl, hp4, ho4⟩)
            have HW4 := Lib.hid (HW.out.pool HC.out ho4 hp4)
            have HI4 := Lib.hid (HI.out.drop (by omega) hx ht)
            have hgl2 : G.length ≤ 1000 := by have := HI.out.len; omega
            obtain ⟨y, hye⟩ : ∃ y, hv p (x : Int) = y := ⟨_, rfl⟩
            rw [hye] at HI4 y0 y1 ⊢
            obtain ⟨p', hpe⟩ : ∃ p', p.drop x = p' := ⟨_, rfl⟩
            rw [hpe] at HW4 HI4
            clear HW HI hp4 ho4 cy hye hpe ht
            have HW := HW4
            clear HW4
            go_upto_region 23 with (at_builtin; refine wpList_grow1_at rfl (.tmp 102) (.tmp 104) 28 rfl base 23 1 8 Tryd.underlying28 (by kernel_rfl) (by decide) (by decide) _ _ _ rfl HW.out.o2 [.int .u64 y] rfl rfl (by simp [Value.oneCell']) (by have := HI4.out.tl; have := HI4.out.len; omega) HW.out.sz _ ?_; intro v' w' hown' ho' hat')
            have HW5 := Lib.hid (HW.out.grow2 HC.out HWB.out hown' ho' hat')
            clear HW hown' ho' hat'
            obtain ⟨G', hGe⟩ : ∃ G', G ++ [y] = G' := ⟨_, rfl⟩
            rw [hGe] at HW5 HI4
            have HW := HW5
            have HI := HI4
            clear HW5 HI4 hGe
            obtain ⟨a2', c2', rfl⟩ := own_slice HW.out.o2
            have hcl := HI.out.cnt_le
            have hln := HI.out.len
            have htl := HI.out.tl
            have e1 : ((p'.cnt : Int) != (T.length : Int) - (G'.length : Int)) = false := bne_f (by omega)
            have e2 : decide ((R : Int) < (p'.cnt : Int)) = false := dec_f (by omega)
            have lw : wrap64 ((T.length : Int) - (G'.length : Int)) = (T.length : Int) - (G'.length : Int) := by unfold wrap64; omega
            have gl : G'.length ≤ 1000 := by omega
            clear hln
            go_upto_region 24 with fail
            go_loopw [14] (fun k wr => ∃ (j : Nat), j ≤ G'.length ∧ k = .int .i64 j ∧ PoW w base b be bo bt p' (.slice (some ⟨g, 0, none⟩) T.length c1) T (.slice a2' G'.length c2') G' wr) (fun k _ => G'.length - (intOf k).toNat)
            case atStart => exact ⟨0, by omega, rfl, HW.out⟩
            case round =>
              clear HW
              obtain ⟨j, hj, rfl, hW⟩ := hrel
              by_cases hjl : j < G'.length
              · obtain ⟨x, hx⟩ : ∃ x, G'[j]? = some x := ⟨_, List.getElem?_eq_getElem hjl⟩
                have hxm : x ∈ G' := List.mem_of_getElem? hx
                obtain ⟨g, cg, hsl, hgl, hgc⟩ := own_cell hW.o2 (by omega)
                have ea : a2' = some ⟨g, 0, none⟩ := by injection hsl
                subst ea
                have cx := hgc j x hx
                have hdead := HI.out.dead hxm
                obtain ⟨x0, x1⟩ := HI.out.rangeG (by omega) hxm
                have dj : decide ((j : Int) < (G'.length : Int)) = true := dec_t (by omega)
                have j0 : (0 : Int) ≤ (j : Int) := by omega
                have j1 : (j : Int) < (G'.length : Int) := by omega
                have HX := Lib.hid hdead
                have HW := Lib.hid hW
                clear hx hxm hsl hgc hdead hW
                go_upto_region 27 with (go_at_call 11; refine (get_no b be bo bt p' _ HW.out.pat HI.out.ok x x0 x1 HX.out).mono ?_; rintro e w7 ⟨rfl, hb7⟩)
                refine wp_name (Pr := fun W => Below wr.heap.size wr W ∧ W.cell? ⟨g, j, none⟩ = some (.int .u64 x)) ⟨below_new hb7 _, ((below_new hb7 _).cell (p := ⟨g, j, none⟩) hgl).trans cx⟩ ?_
                clear cx hb7
                rintro W7 ⟨hb7, cx⟩
                have HW7 := Lib.hid (HW.out.ext hb7)
                clear HW hb7
                go_wp2_with (go_at_call 12; refine (place_no b be bo bt p' _ HW7.out.pat HI.out.ok x x0 x1 HX.out).mono ?_; rintro e w8 ⟨rfl, hb8⟩)
                go_roundw
                case measure => simp [intOf]; omega
                case rel => exact ⟨j + 1, by omega, by go_num, HW7.out.ext hb8⟩
              · obtain rfl : j = G'.length := by omega
                have dj : decide ((G'.length : Int) < (G'.length : Int)) = false := dec_f (by omega)
                have HW := Lib.hid hW
                clear hW
                go_wp2_with (go_at_call 13; refine (live_any b be bo bt p' _ HW.out.pat).mono ?_; rintro e w9 ⟨rfl, hb9⟩; have HW9 := Lib.hid (HW.out.ext hb9); clear HW hb9; have HW := HW9; clear HW9)
                go_roundw
                case measure => simp [intOf]; omega
                case rel => exact ⟨n + 1, p', T, G', by omega, by omega, by go_num, HI.out, HW.out⟩

        · have t1 : (decide (0 ≤ d) && decide ((0 : Int) < (T.length : Int))) = false := by
            by_cases h : 0 ≤ d
            · rw [dec_t h, dec_f (p := (0 : Int) < (T.length : Int)) (by omega)]; rfl
            · rw [dec_f h]; rfl
          have HI4 := Lib.hid (HI.out.mono (Nat.le_refl _) (Nat.le_succ n))
          clear HI
          have HI := HI4
          clear HI4
          rcases Bool.eq_false_or_eq_true (decide (0 ≤ d)) with q1 | q1
          · have q2 : decide ((0 : Int) < (T.length : Int)) = false := by rw [q1] at t1; simpa using t1
            have q3 : decide (0 < T.length) = false := dec_f (by intro h; exact hd ⟨of_decide_eq_true q1, h⟩)
            clear t1 hd
            go_upto_region 23 with fail
            have hcl := HI.out.cnt_le
            have hln := HI.out.len
            have htl := HI.out.tl
            have e1 : ((p.cnt : Int) != (T.length : Int) - (G.length : Int)) = false := bne_f (by omega)
            have e2 : decide ((R : Int) < (p.cnt : Int)) = false := dec_f (by omega)
            have lw : wrap64 ((T.length : Int) - (G.length : Int)) = (T.length : Int) - (G.length : Int) := by unfold wrap64; omega
            have gl : G.length ≤ 1000 := by omega
            clear hln
            go_upto_region 24 with fail
            go_loopw [14] (fun k wr => ∃ (j : Nat), j ≤ G.length ∧ k = .int .i64 j ∧ PoW w base b be bo bt p (.slice a1 T.length c1) T (.slice a2 G.length c2) G wr) (fun k _ => G.length - (intOf k).toNat)
            case atStart => exact ⟨0, by omega, rfl, HW.out⟩
            case round =>
              clear HW
              obtain ⟨j, hj, rfl, hW⟩ := hrel
              by_cases hjl : j < G.length
              · obtain ⟨x, hx⟩ : ∃ x, G[j]? = some x := ⟨_, List.getElem?_eq_getElem hjl⟩
                have hxm : x ∈ G := List.mem_of_getElem? hx
                obtain ⟨g, cg, hsl, hgl, hgc⟩ := own_cell hW.o2 (by omega)
                have ea : a2 = some ⟨g, 0, none⟩ := by injection hsl
                subst ea
                have cx := hgc j x hx
                have hdead := HI.out.dead hxm
                obtain ⟨x0, x1⟩ := HI.out.rangeG (by omega) hxm
                have dj : decide ((j : Int) < (G.length : Int)) = true := dec_t (by omega)
                have j0 : (0 : Int) ≤ (j : Int) := by omega
                have j1 : (j : Int) < (G.length : Int) := by omega
                have HX := Lib.hid hdead
                have HW := Lib.hid hW
                clear hx hxm hsl hgc hdead hW
                go_upto_region 27 with (go_at_call 11; refine (get_no b be bo bt p _ HW.out.pat HI.out.ok x x0 x1 HX.out).mono ?_; rintro e w7 ⟨rfl, hb7⟩)
                refine wp_name (Pr := fun W => Below wr.heap.size wr W ∧ W.cell? ⟨g, j, none⟩ = some (.int .u64 x)) ⟨below_new hb7 _, ((below_new hb7 _).cell (p := ⟨g, j, none⟩) hgl).trans cx⟩ ?_
                clear cx hb7
                rintro W7 ⟨hb7, cx⟩
                have HW7 := Lib.hid (HW.out.ext hb7)
                clear HW hb7
                go_wp2_with (go_at_call 12; refine (place_no b be bo bt p _ HW7.out.pat HI.out.ok x x0 x1 HX.out).mono ?_; rintro e w8 ⟨rfl, hb8⟩)
                go_roundw
                case measure => simp [intOf]; omega
                case rel => exact ⟨j + 1, by omega, by go_num, HW7.out.ext hb8⟩
              · obtain rfl : j = G.length := by omega
                have dj : decide ((G.length : Int) < (G.length : Int)) = false := dec_f (by omega)
                have HW := Lib.hid hW
                clear hW
                go_wp2_with (go_at_call 13; refine (live_any b be bo bt p _ HW.out.pat).mono ?_; rintro e w9 ⟨rfl, hb9⟩; have HW9 := Lib.hid (HW.out.ext hb9); clear HW hb9; have HW := HW9; clear HW9)
                go_roundw
                case measure => simp [intOf]; omega
                case rel => exact ⟨n + 1, p, T, G, by omega, by omega, by go_num, HI.out, HW.out⟩

          · clear t1 hd
            go_upto_region 23 with fail
            have hcl := HI.out.cnt_le
            have hln := HI.out.len
            have htl := HI.out.tl
            have e1 : ((p.cnt : Int) != (T.length : Int) - (G.length : Int)) = false := bne_f (by omega)
            have e2 : decide ((R : Int) < (p.cnt : Int)) = false := dec_f (by omega)
            have lw : wrap64 ((T.length : Int) - (G.length : Int)) = (T.length : Int) - (G.length : Int) := by unfold wrap64; omega
            have gl : G.length ≤ 1000 := by omega
            clear hln
            go_upto_region 24 with fail
            go_loopw [14] (fun k wr => ∃ (j : Nat), j ≤ G.length ∧ k = .int .i64 j ∧ PoW w base b be bo bt p (.slice a1 T.length c1) T (.slice a2 G.length c2) G wr) (fun k _ => G.length - (intOf k).toNat)
            case atStart => exact ⟨0, by omega, rfl, HW.out⟩
            case round =>
              clear HW
              obtain ⟨j, hj, rfl, hW⟩ := hrel
              by_cases hjl : j < G.length
              · obtain ⟨x, hx⟩ : ∃ x, G[j]? = some x := ⟨_, List.getElem?_eq_getElem hjl⟩
                have hxm : x ∈ G := List.mem_of_getElem? hx
                obtain ⟨g, cg, hsl, hgl, hgc⟩ := own_cell hW.o2 (by omega)
                have ea : a2 = some ⟨g, 0, none⟩ := by injection hsl
                subst ea
                have cx := hgc j x hx
                have hdead := HI.out.dead hxm
                obtain ⟨x0, x1⟩ := HI.out.rangeG (by omega) hxm
                have dj : decide ((j : Int) < (G.length : Int)) = true := dec_t (by omega)
                have j0 : (0 : Int) ≤ (j : Int) := by omega
                have j1 : (j : Int) < (G.length : Int) := by omega
                have HX := Lib.hid hdead
                have HW := Lib.hid hW
                clear hx hxm hsl hgc hdead hW
                go_upto_region 27 with (go_at_call 11; refine (get_no b be bo bt p _ HW.out.pat HI.out.ok x x0 x1 HX.out).mono ?_; rintro e w7 ⟨rfl, hb7⟩)
                refine wp_name (Pr := fun W => Below wr.heap.size wr W ∧ W.cell? ⟨g, j, none⟩ = some (.int .u64 x)) ⟨below_new hb7 _, ((below_new hb7 _).cell (p := ⟨g, j, none⟩) hgl).trans cx⟩ ?_
                clear cx hb7
                rintro W7 ⟨hb7, cx⟩
                have HW7 := Lib.hid (HW.out.ext hb7)
                clear HW hb7
                go_wp2_with (go_at_call 12; refine (place_no b be bo bt p _ HW7.out.pat HI.out.ok x x0 x1 HX.out).mono ?_; rintro e w8 ⟨rfl, hb8⟩)
                go_roundw
                case measure => simp [intOf]; omega
                case rel => exact ⟨j + 1, by omega, by go_num, HW7.out.ext hb8⟩
              · obtain rfl : j = G.length := by omega
                have dj : decide ((G.length : Int) < (G.length : Int)) = false := dec_f (by omega)
                have HW := Lib.hid hW
                clear hW
                go_wp2_with (go_at_call 13; refine (live_any b be bo bt p _ HW.out.pat).mono ?_; rintro e w9 ⟨rfl, hb9⟩; have HW9 := Lib.hid (HW.out.ext hb9); clear HW hb9; have HW := HW9; clear HW9)
                go_roundw
                case measure => simp [intOf]; omega
                case rel => exact ⟨n + 1, p, T, G, by omega, by omega, by go_num, HI.out, HW.out⟩



    · rcases Nat.lt_or_ge n len with h1 | h1
      · have k1 : decide ((n : Int) < (len : Int)) = true := dec_t (by omega)
        have k2 : decide ((n : Int) < 200) = false := dec_f (by omega)
        clear hgo
        go_wp2_with (go_at_call 14; refine (known16 _ HW.out.tab).mono ?_; rintro e w9 ⟨rfl, hb9⟩)
        go_ret
        exact ⟨rfl, below_then HW.out.bel hb9⟩
      · have k1 : decide ((n : Int) < (len : Int)) = false := dec_f (by omega)
        clear hgo
        go_wp2_with (go_at_call 14; refine (known16 _ HW.out.tab).mono ?_; rintro e w9 ⟨rfl, hb9⟩)
        go_ret
        exact ⟨rfl, below_then HW.out.bel hb9⟩
end Go.Proofs.YtelnembjcgkiaaaDoor
