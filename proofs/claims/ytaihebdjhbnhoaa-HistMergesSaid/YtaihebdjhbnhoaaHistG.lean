/- Add: numbers come to a live histogram. -/
import Derived.Test.YtaihebdjhbnhoaaHistF
import Derived.LoopTactic
theorem Go.Proofs.Ytaihebdjhbnhoaa.wp_name {P : Go.Program} {c : Go.Code} {Q : Go.Exit → Go.Act → Go.World → Prop} {a : Go.Act} {W : Go.World} {Pr : Go.World → Prop} (h : Pr W) (k : ∀ W', Pr W' → c.wp P Q a W') : c.wp P Q a W := k W h
namespace Go.Proofs.Ytaihebdjhbnhoaa
open Go.RowKit
set_option linter.unusedVariables false
set_option linter.unusedSimpArgs false

/-- The numbers of a slice, apart from a block. -/
def SliceAt (w : World) (a : Option Addr) (zs : List Int) (b : Nat) : Prop :=
  0 < zs.length → ∃ p, a = some p ∧ p.block < w.heap.size ∧ p.block ≠ b ∧ ∀ k (h : k < zs.length), w.cell? (p.add k) = some (.int .u64 zs[k])
theorem but_cell {b : Nat} {w w' : World} (h : But b w w') {p : Addr} (hp : p.block < w.heap.size) (hn : p.block ≠ b) : w'.cell? p = w.cell? p := World.cell?_of_block (h.block p.block hp hn)
theorem addr_block (p : Addr) (k : Nat) : (p.add k).block = p.block := by unfold Addr.add; split <;> rfl
theorem take_snoc_get {α : Type} (l : List α) (k : Nat) (h : k < l.length) : l.take (k + 1) = l.take k ++ [l[k]] := by
  rw [List.take_succ_eq_append_getElem h]
theorem cells_set4 (h : Hs) (s : Sums) : ((((h.cells.setIfInBounds 0 (.int .i64 s.count)).setIfInBounds 1 (.int .u64 s.sum)).setIfInBounds 2 (.int .u64 s.least)).setIfInBounds 3 (.int .u64 s.most)) = (⟨s, h.n⟩ : Hs).cells := by
  simp [Hs.cells]
theorem cells_setn (h : Hs) (k : Nat) (v : Int) : h.cells.setIfInBounds (4 + k) (.int .i64 v) = (⟨h.all, h.n.set k v⟩ : Hs).cells := by
  unfold Hs.cells
  simp only [List.setIfInBounds_toArray]
  rw [List.set_append_right _ _ (by simp)]
  simp [List.map_set]
theorem HistAt.cells4 {w : World} {b : Nat} {L : List Int} (hA : HistAt w b (HsOf L)) : w.cell? ⟨b, 0, none⟩ = some (.int .i64 (sumsL L).count) ∧ w.cell? ⟨b, 1, none⟩ = some (.int .u64 (sumsL L).sum) ∧ w.cell? ⟨b, 2, none⟩ = some (.int .u64 (sumsL L).least) ∧ w.cell? ⟨b, 3, none⟩ = some (.int .u64 (sumsL L).most) :=
  ⟨RowAt.cell hA (i := 0) rfl, RowAt.cell hA (i := 1) rfl, RowAt.cell hA (i := 2) rfl, RowAt.cell hA (i := 3) rfl⟩
theorem with_L (L M : List Int) (hL : GoodL L) (hM : GoodL M) (hn : L.length + M.length ≤ 4611686018427387904) (w : World) :
    Calls Try.prog 46 #[.agg #[.int .i64 (sumsL L).count, .int .u64 (sumsL L).sum, .int .u64 (sumsL L).least, .int .u64 (sumsL L).most], .agg #[.int .i64 (sumsL M).count, .int .u64 (sumsL M).sum, .int .u64 (sumsL M).least, .int .u64 (sumsL M).most]] w fun e w' => e = .returned (.agg #[.int .i64 (sumsL (L ++ M)).count, .int .u64 (sumsL (L ++ M)).sum, .int .u64 (sumsL (L ++ M)).least, .int .u64 (sumsL (L ++ M)).most]) ∧ Below w.heap.size w w' := by
  have h1 := sumL_in hL
  have h2 := sumL_in hM
  have e := sumsL_join hL hM
  refine (with_any _ _ _ _ _ _ _ _ w (by simp only [sumsL]; omega) (by simp only [sumsL]; omega) (by simp only [sumsL]; omega) h1.1 h1.2 h2.1 h2.2).mono ?_
  rintro e2 w' ⟨rfl, hb⟩
  refine ⟨?_, hb⟩
  show Ending.returned (.agg (Sums.join (sumsL L) (sumsL M)).cells) = _
  rw [e]
  rfl
theorem with_one (L : List Int) (n : Int) (hL : GoodL L) (hM : 0 ≤ n ∧ n ≤ 18446744073709551615) (hn : L.length + 1 ≤ 4611686018427387904) (w : World) :
    Calls Try.prog 46 #[.agg #[.int .i64 (sumsL L).count, .int .u64 (sumsL L).sum, .int .u64 (sumsL L).least, .int .u64 (sumsL L).most], .agg #[.int .i64 1, .int .u64 n, .int .u64 n, .int .u64 n]] w fun e w' => e = .returned (.agg #[.int .i64 (sumsL (L ++ [n])).count, .int .u64 (sumsL (L ++ [n])).sum, .int .u64 (sumsL (L ++ [n])).least, .int .u64 (sumsL (L ++ [n])).most]) ∧ Below w.heap.size w w' := by
  have h := with_L L [n] hL (by intro x hx; simp at hx; subst hx; exact hM) hn w
  rw [← sumsL_one n hM] at h
  exact h
theorem HistAt.set4 {w : World} {b : Nat} {L : List Int} (hA : HistAt w b (HsOf L)) (s : Sums) : RowAt ((((w.setCell ⟨b, 0, none⟩ (.int .i64 s.count)).setCell ⟨b, 1, none⟩ (.int .u64 s.sum)).setCell ⟨b, 2, none⟩ (.int .u64 s.least)).setCell ⟨b, 3, none⟩ (.int .u64 s.most)) b (⟨s, bucketsL L⟩ : Hs).cells 76 := by
  have q := (((RowAt.set hA 0 (.int .i64 s.count)).set 1 (.int .u64 s.sum)).set 2 (.int .u64 s.least)).set 3 (.int .u64 s.most)
  rw [cells_set4] at q
  exact q
theorem HistAt.but {w w' : World} {b k : Nat} {h : Hs} (hA : HistAt w k h) (hb : But b w w') (hk : k ≠ b) : HistAt w' k h := RowAt.but hA hb hk
theorem HistAt.ext {w w' : World} {k : Nat} {h : Hs} (hA : HistAt w k h) (hb : Below w.heap.size w w') : HistAt w' k h := RowAt.ext hA hb
set_option maxHeartbeats 8000000 in
set_option maxRecDepth 100000 in
theorem adds_any (b : Nat) (L zs : List Int) (a : Option Addr) (cap : Nat) (w : World) (hA : HistAt w b (HsOf L)) (hL : GoodL L) (hZ : GoodL zs) (hn : L.length + zs.length ≤ 4611686018427387904) (hs : SliceAt w a zs b) :
    Calls Try.prog 15 #[.pointer (some ⟨b, 0, none⟩), .slice a zs.length cap] w fun e w' => e = .returned (.tuple #[]) ∧ HistAt w' b (HsOf (L ++ zs)) ∧ But b w w' := by
  have HS := Lib.hid hs
  clear hs
  go_enter Try.func15, Try.ntmps15
  go_wp2_with fail
  go_loopw [10] (fun i wr => ∃ k : Nat, k ≤ zs.length ∧ i = .int .i64 k ∧ HistAt wr b (HsOf (L ++ zs.take k)) ∧ But b w wr) (fun i _ => zs.length - (intOf i).toNat)
  case atStart => exact ⟨0, by omega, rfl, by simpa using hA, But.refl _ _⟩
  case round =>
    obtain ⟨k, hk, rfl, hR, hB⟩ := hrel
    by_cases hlt : k < zs.length
    · obtain ⟨p, rfl, hp, hpb, hcell⟩ := HS.out (by omega)
      have hc := (but_cell hB (p := p.add k) (by rw [addr_block]; exact hp) (by rw [addr_block]; exact hpb)).trans (hcell k hlt)
      have hz := hZ.get k hlt
      have hgt := (hL.append (hZ.take k))
      have hb4 := Lib.bitLen_le zs[k].toNat 64 (by decide) (by omega)
      obtain ⟨c0, c1, c2, c3⟩ := hR.cells4
      have HW := Lib.hid (fun w => with_one (L ++ zs.take k) zs[k] hgt hz (by simp; omega) w)
      have HR := Lib.hid hR
      have HB := Lib.hid hB
      have hkb : (k : Int) + 1 ≤ 4611686018427387904 := by omega
      have HN : Hid (∀ {c : Int}, c ≤ (((L ++ List.take k zs).length : Nat) : Int) → c + 1 ≤ 9223372036854775807) := fun {c} h => by simp at h; omega
      clear hR hn hL hZ hcell hA hgt hb4 hB hp hpb
      go_upto_region 5 with (go_at_call 46; refine (HW.out _).mono ?_; rintro e w1 ⟨rfl, hb1⟩; have hR1 := HistAt.ext HR.out hb1; have fz := RowAt.frozen hR1; obtain ⟨d0, d1, d2, d3⟩ := hR1.cells4)
      have R4 : RowAt ((((w1.setCell ⟨b, 0, none⟩ (.int .i64 (sumsL (L ++ zs.take (k + 1))).count)).setCell ⟨b, 1, none⟩ (.int .u64 (sumsL (L ++ zs.take (k + 1))).sum)).setCell ⟨b, 2, none⟩ (.int .u64 (sumsL (L ++ zs.take (k + 1))).least)).setCell ⟨b, 3, none⟩ (.int .u64 (sumsL (L ++ zs.take (k + 1))).most)) b (⟨sumsL (L ++ zs.take (k + 1)), bucketsL (L ++ zs.take k)⟩ : Hs).cells 76 := by
        have q := (((RowAt.set hR1 0 (.int .i64 (sumsL (L ++ zs.take (k + 1))).count)).set 1 (.int .u64 (sumsL (L ++ zs.take (k + 1))).sum)).set 2 (.int .u64 (sumsL (L ++ zs.take (k + 1))).least)).set 3 (.int .u64 (sumsL (L ++ zs.take (k + 1))).most)
        rw [cells_set4] at q
        exact q
      have B4 := (((((HB.out.trans (but_of hb1 b)).set 0 (.int .i64 (sumsL (L ++ zs.take (k + 1))).count)).set 1 (.int .u64 (sumsL (L ++ zs.take (k + 1))).sum)).set 2 (.int .u64 (sumsL (L ++ zs.take (k + 1))).least)).set 3 (.int .u64 (sumsL (L ++ zs.take (k + 1))).most))
      refine wp_name (Pr := fun W => RowAt W b (⟨sumsL (L ++ zs.take (k + 1)), bucketsL (L ++ zs.take k)⟩ : Hs).cells 76 ∧ But b w W) ⟨R4, B4⟩ ?_
      clear R4 B4 hR1 fz d0 d1 d2 d3 c0 c1 c2 c3 HR HB HW hb1 hc
      rintro W ⟨R5, B5⟩
      obtain ⟨hk5, hf5⟩ := Ext.cells R5
      have hkb : (⟨sumsL (L ++ zs.take (k + 1)), bucketsL (L ++ zs.take k)⟩ : Hs).cells[4 + Lib.bitLen zs[k].toNat]? = some (.int .i64 (cntL (L ++ zs.take k) (Lib.bitLen zs[k].toNat))) := by
        unfold Hs.cells
        rw [List.getElem?_toArray, List.getElem?_append_right (by simp)]
        simp [bucketsL_get _ (bitLen_lt65 zs[k] hz.1 hz.2)]
      have hkc : ∀ x : Ext W.heap.size W, x.world.cell? ⟨b, 4 + Lib.bitLen zs[k].toNat, none⟩ = some (.int .i64 (cntL (L ++ zs.take k) (Lib.bitLen zs[k].toNat))) := fun x => (hk5 x _).trans hkb
      have hfc : ∀ x : Ext W.heap.size W, x.world.frozen? ⟨b, 4 + Lib.bitLen zs[k].toNat, none⟩ = false := fun x => hf5 x _
      clear hk5 hf5 hkb
      have hb5 : (Lib.bitLen zs[k].toNat : Int) < 65 := by have := bitLen_lt65 zs[k] hz.1 hz.2; omega
      have hb6 : (0 : Int) ≤ (Lib.bitLen zs[k].toNat : Int) := by omega
      have hcn0 := (cntL_in (L ++ zs.take k) (Lib.bitLen zs[k].toNat)).1
      have hcw : cntL (L ++ zs.take k) (Lib.bitLen zs[k].toNat) + 1 ≤ 9223372036854775807 := HN.out (cntL_in (L ++ zs.take k) (Lib.bitLen zs[k].toNat)).2
      refine wp_start (w := W) ?_
      intro x
      refine wp_region_ext_tail _ 11 (by kernel_rfl) (by kernel_rfl) (by kernel_rfl) ?_
      simp only [List.take_succ_cons, List.take_zero, List.drop_succ_cons, List.drop_zero]
      repeat (go_big_quiet_step (first | (go_at_call 11; exact Ext.call ((of_any _ _ hz.1 hz.2).mono fun e w' h => ⟨h.1, by rw [h.2]; exact Below.refl _ _⟩))))
      refine wpQuiet_nil ?_
      rintro _ ⟨y, rfl⟩
      go_wp2_with fail
      have R6 := RowAt.set (RowAt.ext R5 y.ok) (4 + Lib.bitLen zs[k].toNat) (.int .i64 (cntL (L ++ zs.take k) (Lib.bitLen zs[k].toNat) + 1))
      rw [cells_setn] at R6
      simp only [buckets_snoc _ _ hz] at R6
      rw [List.append_assoc, ← take_snoc_get zs k hlt] at R6
      refine ⟨⟨k + 1, by omega, by simp, R6, ((B5.trans (but_of y.ok b)).set _ _)⟩, ?_⟩
      simp only [intOf]
      omega
    · obtain rfl : k = zs.length := by omega
      rw [List.take_length] at hR
      go_wp2_with fail
      go_end0
      exact ⟨rfl, hR, hB⟩
end Go.Proofs.Ytaihebdjhbnhoaa
