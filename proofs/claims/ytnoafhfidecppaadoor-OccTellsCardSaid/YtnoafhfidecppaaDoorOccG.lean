/- The document's table of truths: Of, Words, In, Put, Next. -/
import Derived.Test.YtnoafhfidecppaaDoorOccF
import Derived.Test.YtnoafhfidecppaaDoorRowat
namespace Go.Proofs.YtnoafhfidecppaaDoor
open Go.RowKit
set_option linter.unusedVariables false
set_option linter.unusedSimpArgs false

def tl (f : Nat → Bool) : List Bool := (List.range 512).map f
def tbl (f : Nat → Bool) : Value := .agg (bools (tl f))
def tOf (m : Map8) (i : Nat) : Bool := bitI (m.at (i / 64 : Nat)) (i % 64)
theorem zeros46 : Tryd.zeroCells46 = bools (tl fun _ => false) := by kernel_rfl
theorem info46 : (Tryd.prog.info? 46).map (·.size) = some 512 := by kernel_rfl
theorem bit_next (n : Int) (j : Nat) (h0 : 0 ≤ n) (h1 : n ≤ 18446744073709551615) : (n / 2 ^ j).tmod 2 = n / 2 ^ j % 2 := Int.tmod_eq_emod_of_nonneg (pow_half_range h0 h1 _).1
set_option maxHeartbeats 4000000 in
set_option maxRecDepth 100000 in
theorem of_any (m : Map8) (w : World) :
    Calls Tryd.prog 41 #[m.val] w fun e w' => e = .returned (tbl (tOf m)) ∧ Below w.heap.size w w' := by
  have hsz := m.size
  unfold Map8.val
  go_enter Tryd.func41, Tryd.ntmps41
  go_wp2_with fail
  rw [zeros46]
  refine wp_box3 ?_
  intro W hB b0 b1 b2 hW
  have R0 : RowAt W w.heap.size m.arr 39 := b0
  have R1 : RowAt W (w.heap.size + 1) _ 46 := b1
  have R2 : RowAt W (w.heap.size + 2) _ 46 := b2
  have HB := Lib.hid hB
  clear b0 b1 b2 hB
  go_loopw [4, 5, 6] (fun k n s wr => ∃ (j : Nat) (l : List Bool), j ≤ 8 ∧ k = .int .i64 j ∧ l.length = 512 ∧ (∀ i, i < j * 64 → l[i]? = some (tOf m i)) ∧ RowAt wr w.heap.size m.arr 39 ∧ RowAt wr (w.heap.size + 1) (bools (tl fun _ => false)) 46 ∧ RowAt wr (w.heap.size + 2) (bools l) 46 ∧ Below w.heap.size w wr)
    (fun k _ _ _ => 8 - (intOf k).toNat)
  case atStart => exact ⟨0, _, by omega, rfl, by simp [tl], fun i hi => by omega, R0, R1, R2, HB.out⟩
  case round =>
    obtain ⟨j, l, hj, rfl, hl, hd, Q0, Q1, Q2, hB⟩ := hrel
    clear R0 R1 R2
    by_cases hlt : j < 8
    · have hc := Q0.cell (m.cell j (by omega) (by omega))
      rw [Int.toNat_natCast] at hc
      obtain ⟨r0, r1⟩ := m.at_range j
      go_wp2_with fail
      obtain ⟨wo, rfl⟩ : ∃ wo : World, wo = wr := ⟨_, rfl⟩
      go_loopw [5, 6] (fun n s wr => ∃ (i : Nat) (l : List Bool), i ≤ 64 ∧ n = .int .u64 (m.at j / 2 ^ i) ∧ s = .int .i64 i ∧ l.length = 512 ∧ (∀ q, q < j * 64 + i → l[q]? = some (tOf m q)) ∧ RowAt wr w.heap.size m.arr 39 ∧ RowAt wr (w.heap.size + 1) (bools (tl fun _ => false)) 46 ∧ RowAt wr (w.heap.size + 2) (bools l) 46 ∧ Below w.heap.size w wr)
        (fun _ s _ => 64 - (intOf s).toNat)
      case atStart => exact ⟨0, l, by omega, by simp, rfl, hl, fun q hq => hd q (by omega), Q0, Q1, Q2, hB⟩
      case round =>
        clear hc Q0 Q1 Q2 hB hd hl
        obtain ⟨i, l, hi, rfl, rfl, hl, hd, Q0, Q1, Q2, hB⟩ := hrel
        by_cases hlt2 : i < 64
        · obtain ⟨v, hv⟩ : ∃ v, l[j * 64 + i]? = some v := ⟨_, List.getElem?_eq_getElem (by omega)⟩
          have hc := Q2.cell (bools_get hv)
          have hf := Q2.frozen (j * 64 + i)
          have e1 := half_pow (m.at j) i
          have e2 := bit_next (m.at j) i r0 r1
          obtain ⟨p0, p1⟩ := pow_half_range r0 r1 i
          go_wp2_with fail
          go_roundw
          case measure => simp [intOf]; omega
          case rel =>
            have ev : (m.at j / 2 ^ i % 2 == 1) = tOf m (j * 64 + i) := by
              rw [tOf, show (j * 64 + i) / 64 = j by omega, show (j * 64 + i) % 64 = i by omega]; rfl
            rw [ev]
            have Q3 := Q2.set (j * 64 + i) (.bool (tOf m (j * 64 + i)))
            rw [bools_set] at Q3
            refine ⟨i + 1, l.set (j * 64 + i) (tOf m (j * 64 + i)), by omega, by rw [e1], by go_num, by simp [hl], fun q hq => ?_, Q0.other (by simp; omega) _, Q1.other (by simp) _, Q3, below_set hB (by simp; omega) _⟩
            rw [List.getElem?_set]
            by_cases hqe : j * 64 + i = q
            · subst hqe; rw [if_pos rfl, if_pos (by omega)]
            · rw [if_neg hqe]; exact hd q (by omega)
        · obtain rfl : i = 64 := by omega
          go_wp2_with fail
          go_roundw
          case measure => simp [intOf]; omega
          case rel => exact ⟨j + 1, l, by omega, by go_num, hl, fun q hq => hd q (by omega), Q0, Q1, Q2, hB⟩
    · obtain rfl : j = 8 := by omega
      have hi : (Tryd.prog.info? 46).map (·.size) = some (bools l).size := by rw [bools_size, hl]; exact info46
      have el : l = tl (tOf m) := list_of_places l 512 _ hl hd
      have ho : (bools (tl fun _ => false)).size = (bools l).size := by rw [bools_size, bools_size, hl]; simp [tl]
      go_wp2_with (first | (refine wpList_load_row rfl 46 (.tmp 3) rfl (w.heap.size + 1 + 1) rfl 46 (bools l) (0, 0) _ Q2 Tryd.underlying46 rfl hi ?_) | (refine wpList_store_row rfl 46 (.tmp 2) (.tmp 27) rfl (w.heap.size + 1) (bools l) rfl rfl 46 _ Q1 hi ho (bools_one l) ?_))
      refine bodyPost_ret (v := .agg (bools l)) (results_cell_row rfl _ _ (w.heap.size + 1) 46 (bools l) (0, 0) _ rfl (Q1.setRow (bools l)) Tryd.underlying46 rfl hi) rfl ⟨by rw [el]; rfl, below_setRow hB (by omega) _⟩
/-- A row's word. -/
def wordOf (f : Nat → Bool) (k : Nat) : Int := bs (fun s => f (k * 64 + s)) 64
theorem wordOf_range (f : Nat → Bool) (k : Nat) : 0 ≤ wordOf f k ∧ wordOf f k ≤ 18446744073709551615 := by
  have := bs_range (fun s => f (k * 64 + s)) 64
  unfold wordOf
  omega
theorem wordOf_step (f : Nat → Bool) (k i : Nat) (hi : i < 64) : wordOf f k / 2 ^ i = 2 * (wordOf f k / 2 ^ (i + 1)) + if f (k * 64 + i) = true then 1 else 0 := by
  have hb : bitI (wordOf f k) i = f (k * 64 + i) := by
    obtain ⟨n, h1, h2, h3⟩ := bs_nat (fun s => f (k * 64 + s)) 64
    rw [wordOf, h1, bitI_nat, h3]
    simp [hi]
  have h1 := half_pow (wordOf f k) i
  rw [bitI] at hb
  rw [← h1]
  by_cases h : f (k * 64 + i) = true
  · rw [h] at hb
    have : wordOf f k / 2 ^ i % 2 = 1 := by simpa using hb
    rw [if_pos h]; omega
  · rw [if_neg h]
    have hb' : (wordOf f k / 2 ^ i % 2 == 1) = false := by rw [hb]; simpa using h
    have : ¬ wordOf f k / 2 ^ i % 2 = 1 := by simpa using hb'
    omega
theorem wordOf_bound (f : Nat → Bool) (k i : Nat) : 0 ≤ wordOf f k / 2 ^ (i + 1) ∧ 2 * (wordOf f k / 2 ^ (i + 1)) + 1 ≤ 18446744073709551615 := by
  obtain ⟨h0, h1⟩ := wordOf_range f k
  obtain ⟨p0, p1⟩ := pow_half_range h0 h1 i
  have h := half_pow (wordOf f k) i
  have p2 := (pow_half_range h0 h1 (i + 1)).1
  omega
def wl (f : Nat → Bool) : List Int := (List.range 8).map (wordOf f)
theorem info39 : (Tryd.prog.info? 39).map (·.size) = some 8 := by kernel_rfl
set_option maxHeartbeats 4000000 in
set_option maxRecDepth 100000 in
theorem words_any (f : Nat → Bool) (w : World) :
    Calls Tryd.prog 45 #[tbl f] w fun e w' => e = .returned (.agg (ints .u64 (wl f))) ∧ Below w.heap.size w w' := by
  have hsz := bools_size (tl f)
  unfold tbl
  go_enter Tryd.func45, Tryd.ntmps45
  go_wp2_with fail
  refine wp_box3 ?_
  intro W hB b0 b1 b2 hW
  have R0 : RowAt W w.heap.size (bools (tl f)) 46 := b0
  have R1 : RowAt W (w.heap.size + 1) (ints .u64 (List.replicate 8 0)) 39 := b1
  have R2 : RowAt W (w.heap.size + 2) (ints .u64 (List.replicate 8 0)) 39 := b2
  have HB := Lib.hid hB
  clear b0 b1 b2 hB
  go_loopw [4, 5] (fun k s wr => ∃ (j : Nat) (l : List Int), j ≤ 8 ∧ k = .int .i64 j ∧ l.length = 8 ∧ (∀ i, i < j → l[i]? = some (wordOf f i)) ∧ (∀ i, j ≤ i → i < 8 → l[i]? = some 0) ∧ RowAt wr w.heap.size (bools (tl f)) 46 ∧ RowAt wr (w.heap.size + 1) (ints .u64 (List.replicate 8 0)) 39 ∧ RowAt wr (w.heap.size + 2) (ints .u64 l) 39 ∧ Below w.heap.size w wr)
    (fun k _ _ => 8 - (intOf k).toNat)
  case atStart => exact ⟨0, _, by omega, rfl, by simp, fun i hi => by omega, fun i _ hi => by rw [List.getElem?_replicate, if_pos hi], R0, R1, R2, HB.out⟩
  case round =>
    obtain ⟨j, l, hj, rfl, hl, hd, hz, Q0, Q1, Q2, hB⟩ := hrel
    clear R0 R1 R2
    by_cases hlt : j < 8
    · go_wp2_with fail
      obtain ⟨wo, rfl⟩ : ∃ wo : World, wo = wr := ⟨_, rfl⟩
      go_loopw [5] (fun s wr => ∃ (i : Nat) (l : List Int), i ≤ 64 ∧ s = .int .i64 ((i : Int) - 1) ∧ l.length = 8 ∧ (∀ q, q < j → l[q]? = some (wordOf f q)) ∧ l[j]? = some (wordOf f j / 2 ^ i) ∧ (∀ i, j < i → i < 8 → l[i]? = some 0) ∧ RowAt wr w.heap.size (bools (tl f)) 46 ∧ RowAt wr (w.heap.size + 1) (ints .u64 (List.replicate 8 0)) 39 ∧ RowAt wr (w.heap.size + 2) (ints .u64 l) 39 ∧ Below w.heap.size w wr)
        (fun s _ => (intOf s + 1).toNat)
      case atStart =>
        refine ⟨64, l, by omega, rfl, hl, hd, ?_, fun i h1 h2 => hz i (by omega) h2, Q0, Q1, Q2, hB⟩
        rw [hz j (by omega) hlt]
        have := wordOf_range f j
        congr 1
        omega
      case round =>
        clear Q0 Q1 Q2 hB hd hl hz
        obtain ⟨i, l, hi, rfl, hl, hd, hv, hz, Q0, Q1, Q2, hB⟩ := hrel
        by_cases hpos : 0 < i
        · obtain ⟨i, rfl⟩ : ∃ n, i = n + 1 := ⟨i - 1, by omega⟩
          rw [show ((i + 1 : Nat) : Int) - 1 = (i : Int) by omega]
          have hlj : j < l.length := by omega
          have hst := wordOf_step f j i (by omega)
          obtain ⟨v0, v1⟩ := wordOf_bound f j i
          obtain ⟨V, hV⟩ : ∃ V, wordOf f j / 2 ^ (i + 1) = V := ⟨_, rfl⟩
          rw [hV] at hst v0 v1 hv
          have hc := Q2.cell (ints_get (k := .u64) hv)
          have hfz := Q2.frozen j
          have ht := Q0.cell (bools_get (range_get 512 f (j * 64 + i) (by omega)))
          have HS := Lib.hid hst
          have HV := Lib.hid hV
          clear hst hV hv
          rcases Bool.eq_false_or_eq_true (f (j * 64 + i)) with hfv | hfv
          · rw [hfv] at ht
            go_wp2_with fail
            go_roundw
            case measure => simp [intOf]
            case rel =>
              have Q3 := (Q2.set j (.int .u64 (2 * V))).set j (.int .u64 (2 * V + 1))
              rw [ints_set, ints_set] at Q3
              refine ⟨i, (l.set j (2 * V)).set j (2 * V + 1), by omega, rfl, by simp [hl], fun q hq => ?_, ?_, fun q h1 h2 => ?_, (Q0.other (by simp; omega) _).other (by simp; omega) _, (Q1.other (by simp) _).other (by simp) _, Q3, below_set (below_set hB (by simp; omega) _) (by simp; omega) _⟩
              · rw [List.getElem?_set, if_neg (by omega), List.getElem?_set, if_neg (by omega)]; exact hd q hq
              · have := HS.out
                rw [hfv, if_pos rfl] at this
                rw [this]
                simp [hlj]
              · rw [List.getElem?_set, if_neg (by omega), List.getElem?_set, if_neg (by omega)]; exact hz q h1 h2
          · rw [hfv] at ht
            go_wp2_with fail
            go_roundw
            case measure => simp [intOf]
            case rel =>
              have Q3 := Q2.set j (.int .u64 (2 * V))
              rw [ints_set] at Q3
              refine ⟨i, l.set j (2 * V), by omega, rfl, by simp [hl], fun q hq => ?_, ?_, fun q h1 h2 => ?_, Q0.other (by simp; omega) _, Q1.other (by simp) _, Q3, below_set hB (by simp; omega) _⟩
              · rw [List.getElem?_set, if_neg (by omega)]; exact hd q hq
              · have := HS.out
                rw [hfv, if_neg (by simp), Int.add_zero] at this
                rw [this]
                simp [hlj]
              · rw [List.getElem?_set, if_neg (by omega)]; exact hz q h1 h2
        · obtain rfl : i = 0 := by omega
          have hneg : decide ((0 : Int) ≤ ((0 : Nat) : Int) - 1) = false := rfl
          go_wp2_with fail
          go_roundw
          case measure => simp [intOf]; omega
          case rel => exact ⟨j + 1, l, by omega, by go_num, hl, fun q hq => by rcases Nat.lt_or_ge q j with h | h; exact hd q h; (obtain rfl : q = j := (by omega)); rw [hv]; simp, fun q h1 h2 => hz q (by omega) h2, Q0, Q1, Q2, hB⟩
    · obtain rfl : j = 8 := by omega
      have hi : (Tryd.prog.info? 39).map (·.size) = some (ints .u64 l).size := by rw [ints_size, hl]; exact info39
      have el : l = wl f := list_of_places l 8 _ hl hd
      have ho : (ints .u64 (List.replicate 8 0)).size = (ints .u64 l).size := by rw [ints_size, ints_size, hl]; simp
      go_wp2_with (first | (refine wpList_load_row rfl 39 (.tmp 3) rfl (w.heap.size + 1 + 1) rfl 39 (ints .u64 l) (0, 0) _ Q2 Tryd.underlying39 rfl hi ?_) | (refine wpList_store_row rfl 39 (.tmp 2) (.tmp 31) rfl (w.heap.size + 1) (ints .u64 l) rfl rfl 39 _ Q1 hi ho (ints_one .u64 l) ?_))
      refine bodyPost_ret (v := .agg (ints .u64 l)) (results_cell_row rfl _ _ (w.heap.size + 1) 39 (ints .u64 l) (0, 0) _ rfl (Q1.setRow (ints .u64 l)) Tryd.underlying39 rfl hi) rfl ⟨by rw [el], below_setRow hB (by omega) _⟩
theorem run_index_arr {P : Program} (w : World) (t e : TypeId) (n : Nat) (k ke : IntKind) (cs : Array Value) (i : Int) (v : Value) (info : TypeInfo) (ht : P.underlying t = some (.array n e)) (he : P.underlying e = some (.int ke)) (hi : P.info? e = some info) (hz : info.size = 1)
    (h0 : 0 ≤ i) (h1 : i < n) (hv : cs[i.toNat]? = some v) : (Instr.index t (.agg cs) (.int k i)).run P w = .ok v w := by
  simp [Instr.index, asIntOf, run_underlying ht, h0, h1, sizeOf, typeInfo, hi, hz, part, isAgg, run_underlying he, hv]
def putF (f : Nat → Bool) (l s : Int) (b : Bool) (i : Nat) : Bool := if okS l s ∧ i = l.toNat * 64 + s.toNat then b else f i
def rnextI (f : Nat → Bool) (l s : Int) : Int := if 0 ≤ l ∧ l < 8 then firstI (wordOf f l.toNat) s else -1
set_option maxHeartbeats 4000000 in
set_option maxRecDepth 100000 in
theorem rin_any (l s : Int) (w : World) :
    Calls Tryd.prog 44 #[.int .i64 l, .int .i64 s] w fun e w' => e = .returned (.bool (decide (okS l s))) ∧ Below w.heap.size w w' := by
  by_cases h : l < 0
  · have g1 : decide (0 ≤ l) = false := by simp; omega
    have e1 : decide (okS l s) = false := decide_eq_false (by unfold okS; omega)
    rw [e1]
    clear e1
    go_enter Tryd.func44, Tryd.ntmps44
    go_wp2
    go_ret
    exact ⟨rfl, Below.refl _ _⟩
  by_cases h : 8 ≤ l
  · have g1 : decide (0 ≤ l) = true := by simp; omega
    have g2 : decide (l < 8) = false := by simp; omega
    have e1 : decide (okS l s) = false := decide_eq_false (by unfold okS; omega)
    rw [e1]
    clear e1
    go_enter Tryd.func44, Tryd.ntmps44
    go_wp2
    go_ret
    exact ⟨rfl, Below.refl _ _⟩
  by_cases h : s < 0
  · have g1 : decide (0 ≤ l) = true := by simp; omega
    have g2 : decide (l < 8) = true := by simp; omega
    have g3 : decide (0 ≤ s) = false := by simp; omega
    have e1 : decide (okS l s) = false := decide_eq_false (by unfold okS; omega)
    rw [e1]
    clear e1
    go_enter Tryd.func44, Tryd.ntmps44
    go_wp2
    go_ret
    exact ⟨rfl, Below.refl _ _⟩
  by_cases h : 64 ≤ s
  · have g1 : decide (0 ≤ l) = true := by simp; omega
    have g2 : decide (l < 8) = true := by simp; omega
    have g3 : decide (0 ≤ s) = true := by simp; omega
    have g4 : decide (s < 64) = false := by simp; omega
    have e1 : decide (okS l s) = false := decide_eq_false (by unfold okS; omega)
    rw [e1]
    clear e1
    go_enter Tryd.func44, Tryd.ntmps44
    go_wp2
    go_ret
    exact ⟨rfl, Below.refl _ _⟩
  have g1 : decide (0 ≤ l) = true := by simp; omega
  have g2 : decide (l < 8) = true := by simp; omega
  have g3 : decide (0 ≤ s) = true := by simp; omega
  have g4 : decide (s < 64) = true := by simp; omega
  have e1 : decide (okS l s) = true := decide_eq_true (by unfold okS; omega)
  rw [e1]
  clear e1
  go_enter Tryd.func44, Tryd.ntmps44
  go_wp2
  go_ret
  exact ⟨rfl, Below.refl _ _⟩
set_option maxHeartbeats 4000000 in
set_option maxRecDepth 100000 in
theorem put_any (f : Nat → Bool) (l s : Int) (b : Bool) (w : World) :
    Calls Tryd.prog 46 #[tbl f, .int .i64 l, .int .i64 s, .bool b] w fun e w' => e = .returned (tbl (putF f l s b)) ∧ Below w.heap.size w w' := by
  have hsz := bools_size (tl f)
  have hi : ∀ f, (Tryd.prog.info? 46).map (·.size) = some (bools (tl f)).size := fun f => by rw [bools_size]; simp only [tl, List.length_map, List.length_range]; exact info46
  have ho : ∀ f g, (bools (tl f)).size = (bools (tl g)).size := fun f g => by rw [bools_size, bools_size]; simp [tl]
  have HI := Lib.hid hi
  have HO := Lib.hid ho
  clear hi ho
  unfold tbl
  by_cases h : okS l s
  · have hd : decide (okS l s) = true := decide_eq_true h
    have e1 : (tl f).set (l.toNat * 64 + s.toNat) b = tl (putF f l s b) := by
      apply List.ext_getElem?
      intro i
      rw [List.getElem?_set]
      obtain ⟨h0, h1, h2, h3⟩ := h
      by_cases hi : l.toNat * 64 + s.toNat = i
      · subst hi
        rw [if_pos rfl, if_pos (by simp [tl]; omega)]
        unfold tl
        rw [range_get 512 _ _ (by omega), putF, if_pos ⟨⟨h0, h1, h2, h3⟩, rfl⟩]
      · rw [if_neg hi]
        unfold tl
        rcases Nat.lt_or_ge i 512 with hlt | hge
        · rw [range_get 512 _ _ hlt, range_get 512 _ _ hlt, putF, if_neg (fun h => hi h.2.symm)]
        · rw [List.getElem?_eq_none (by simpa using hge), List.getElem?_eq_none (by simpa using hge)]
    have E1 := Lib.hid e1
    clear e1
    obtain ⟨h0, h1, h2, h3⟩ := h
    obtain ⟨L, rfl⟩ := Int.eq_ofNat_of_zero_le h0
    obtain ⟨S, rfl⟩ := Int.eq_ofNat_of_zero_le h2
    simp only [Int.toNat_natCast] at E1
    go_enter Tryd.func46, Tryd.ntmps46
    go_wp2_with fail
    rw [zeros46]
    refine calls_box2 ?_
    intro W hB b0 b1 hW
    have R0 : RowAt W w.heap.size (bools (tl f)) 46 := b0
    have R1 : RowAt W (w.heap.size + 1) (bools (tl fun _ => false)) 46 := b1
    clear b0 b1
    refine (rin_any _ _ _).mono ?_
    rintro e w1 ⟨rfl, hb1⟩
    have HB := Lib.hid (below_then hB hb1)
    have Q0 := R0.ext hb1
    have Q1 := R1.ext hb1
    clear hB hb1 R0 R1
    have hc := Q0.cell (bools_get (range_get 512 f (L * 64 + S) (by omega)))
    have hf := Q0.frozen (L * 64 + S)
    have Q2 : RowAt (w1.setCell ⟨w.heap.size, L * 64 + S, none⟩ (.bool b)) w.heap.size (bools (tl (putF f L S b))) 46 := by
      have := Q0.set (L * 64 + S) (.bool b)
      rw [bools_set, E1.out] at this
      exact this
    have Q3 : RowAt (w1.setCell ⟨w.heap.size, L * 64 + S, none⟩ (.bool b)) (w.heap.size + 1) (bools (tl fun _ => false)) 46 := Q1.other (by simp) _
    go_wp2_with (first | (refine wpList_load_row rfl 46 (.tmp 4) rfl w.heap.size rfl 46 _ (0, 0) _ Q2 Tryd.underlying46 rfl (HI.out _) ?_) | (refine wpList_store_row rfl 46 (.tmp 8) (.tmp 17) rfl (w.heap.size + 1) _ rfl rfl 46 _ Q3 (HI.out _) (HO.out _ _) (bools_one _) ?_))
    exact bodyPost_ret (v := tbl (putF f L S b)) (results_cell_row rfl _ _ (w.heap.size + 1) 46 (bools (tl (putF f L S b))) (0, 0) _ rfl (Q3.setRow _) Tryd.underlying46 rfl (HI.out _)) rfl ⟨rfl, below_setRow (below_set HB.out (by simp) _) (by omega) _⟩
  · have hd : decide (okS l s) = false := decide_eq_false h
    have e1 : putF f l s b = f := funext fun i => by rw [putF, if_neg (fun h' => h h'.1)]
    rw [e1]
    clear e1 h
    go_enter Tryd.func46, Tryd.ntmps46
    go_wp2_with fail
    rw [zeros46]
    refine calls_box2 ?_
    intro W hB b0 b1 hW
    have R0 : RowAt W w.heap.size (bools (tl f)) 46 := b0
    have R1 : RowAt W (w.heap.size + 1) (bools (tl fun _ => false)) 46 := b1
    clear b0 b1
    refine (rin_any _ _ _).mono ?_
    rintro e w1 ⟨rfl, hb1⟩
    have HB := Lib.hid (below_then hB hb1)
    have Q2 := R0.ext hb1
    have Q3 := R1.ext hb1
    clear hB hb1 R0 R1
    go_wp2_with (first | (refine wpList_load_row rfl 46 (.tmp 4) rfl w.heap.size rfl 46 _ (0, 0) _ Q2 Tryd.underlying46 rfl (HI.out _) ?_) | (refine wpList_store_row rfl 46 (.tmp 8) (.tmp 17) rfl (w.heap.size + 1) _ rfl rfl 46 _ Q3 (HI.out _) (HO.out _ _) (bools_one _) ?_))
    exact bodyPost_ret (v := tbl f) (results_cell_row rfl _ _ (w.heap.size + 1) 46 (bools (tl f)) (0, 0) _ rfl (Q3.setRow _) Tryd.underlying46 rfl (HI.out _)) rfl ⟨rfl, below_setRow HB.out (by omega) _⟩
set_option maxHeartbeats 4000000 in
set_option maxRecDepth 100000 in
theorem rnext_any (f : Nat → Bool) (l s : Int) (w : World) (s0 : -9223372036854775808 ≤ s) (s1 : s ≤ 9223372036854775807) :
    Calls Tryd.prog 47 #[tbl f, .int .i64 l, .int .i64 s] w fun e w' => e = .returned (.int .i64 (rnextI f l s)) ∧ Below w.heap.size w w' := by
  have hsz := bools_size (tl f)
  have hi : ∀ f, (Tryd.prog.info? 46).map (·.size) = some (bools (tl f)).size := fun f => by rw [bools_size]; simp only [tl, List.length_map, List.length_range]; exact info46
  have HI := Lib.hid hi
  clear hi
  by_cases h : 0 ≤ l ∧ l < 8
  · have hd : decide (okS l 0) = true := decide_eq_true (show okS l 0 by unfold okS; omega)
    obtain ⟨h0, h1⟩ := h
    obtain ⟨L, rfl⟩ := Int.eq_ofNat_of_zero_le h0
    obtain ⟨v0, v1⟩ := wordOf_range f L
    have e1 : firstI (wordOf f L) s = rnextI f L s := by rw [rnextI, if_pos ⟨h0, h1⟩, Int.toNat_natCast]
    have E1 := Lib.hid e1
    clear e1
    obtain ⟨i, hi, hz⟩ := Option.map_eq_some_iff.1 Tryd.infoU64
    have hx := fun w => run_index_arr (P := Tryd.prog) w 39 22 8 .i64 .u64 (ints .u64 (wl f)) (L : Int) (.int .u64 (wordOf f L)) i Tryd.underlying39 Tryd.underlying22 hi hz h0 h1 (by rw [Int.toNat_natCast]; exact ints_get (range_get 8 _ L (by omega)))
    clear hi hz
    unfold tbl
    go_enter Tryd.func47, Tryd.ntmps47
    go_wp2_with fail
    refine calls_box ?_
    intro W hB b0 hW
    have R0 : RowAt W w.heap.size (bools (tl f)) 46 := b0
    clear b0
    refine (rin_any _ _ _).mono ?_
    rintro e w1 ⟨rfl, hb1⟩
    have HB := Lib.hid (below_then hB hb1)
    have Q2 := R0.ext hb1
    clear hB hb1 R0
    go_wp2_with (first | (refine wpList_load_row rfl 46 (.tmp 3) rfl w.heap.size rfl 46 _ (0, 0) _ Q2 Tryd.underlying46 rfl (HI.out _) ?_) | fail)
    refine (words_any f _).mono ?_
    rintro e w2 ⟨rfl, hb2⟩
    go_wp2_with fail
    refine (rfirst_any _ _ _ v0 v1 s1).mono ?_
    rintro e w3 ⟨rfl, hb3⟩
    go_wp2_with fail
    go_ret
    exact ⟨ret_int E1.out, below_then HB.out (below_then hb2 hb3)⟩
  · have hd : decide (okS l 0) = false := decide_eq_false (by unfold okS; omega)
    have e1 : -1 = rnextI f l s := by rw [rnextI, if_neg h]
    have E1 := Lib.hid e1
    clear e1 h
    unfold tbl
    go_enter Tryd.func47, Tryd.ntmps47
    go_wp2_with fail
    refine calls_box ?_
    intro W hB b0 hW
    refine (rin_any _ _ _).mono ?_
    rintro e w1 ⟨rfl, hb1⟩
    go_wp2_with fail
    go_ret
    exact ⟨ret_int E1.out, below_then hB hb1⟩
end Go.Proofs.YtnoafhfidecppaaDoor
