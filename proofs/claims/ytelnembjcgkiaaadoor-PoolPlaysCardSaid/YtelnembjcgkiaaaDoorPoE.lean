/- The pool: Put. -/
import Derived.Test.YtelnembjcgkiaaaDoorPoD
namespace Go.Proofs.YtelnembjcgkiaaaDoor
open Go.RowKit
set_option linter.unusedVariables false
set_option linter.unusedSimpArgs false

theorem pow_nat64 (s : Nat) : (2 : Int) ^ s = ((2 ^ s : Nat) : Int) := by simp
theorem mark_range (v : Int) (s : Nat) (t : Bool) (h0 : 0 ≤ v) (h1 : v ≤ 18446744073709551615) (hs : s < 64) : 0 ≤ markW v s t ∧ markW v s t ≤ 18446744073709551615 := by
  obtain ⟨b0, b1⟩ := pow_small64 s hs
  have ha : 0 ≤ bits .andNot .u64 v (2 ^ s) ∧ bits .andNot .u64 v (2 ^ s) ≤ 18446744073709551615 := by
    rw [u64_andNot v _ h0 (by omega) (by omega) (by omega)]
    have : v.toNat &&& (18446744073709551615 - ((2 : Int) ^ s).toNat) ≤ v.toNat := Nat.and_le_left
    omega
  unfold markW
  split
  · rw [u64_or _ _ ha.1 (by omega) (by omega) (by omega)]
    have h3 : (bits .andNot .u64 v (2 ^ s)).toNat < 2 ^ 64 := by omega
    have h4 : ((2 : Int) ^ s).toNat < 2 ^ 64 := by omega
    have := Nat.or_lt_two_pow h3 h4
    omega
  · exact ha
theorem mark_bits (v : Int) (s : Nat) (t : Bool) (h0 : 0 ≤ v) (h1 : v ≤ 18446744073709551615) (hs : s < 64) (j : Nat) (hj : j < 64) : bitI (markW v s t) j = if j = s then t else bitI v j := by
  obtain ⟨b0, b1⟩ := pow_small64 s hs
  have ha : 0 ≤ bits .andNot .u64 v (2 ^ s) ∧ bits .andNot .u64 v (2 ^ s) ≤ 18446744073709551615 := by
    rw [u64_andNot v _ h0 (by omega) (by omega) (by omega)]
    have : v.toNat &&& (18446744073709551615 - ((2 : Int) ^ s).toNat) ≤ v.toNat := Nat.and_le_left
    omega
  have hp : ((2 : Int) ^ s).toNat = 2 ^ s := by rw [pow_nat64, Int.toNat_natCast]
  have e1 : bitI (bits .andNot .u64 v (2 ^ s)) j = (bitI v j && !decide (s = j)) := by
    rw [bitI_toNat ha.1, u64_andNot v _ h0 (by omega) (by omega) (by omega), Int.toNat_natCast, hp, Nat.testBit_and, bitI_toNat h0, not_bits64 (2 ^ s) j (by have := Nat.pow_le_pow_right (n := 2) (by decide) (show s ≤ 63 by omega); omega) hj, Nat.testBit_two_pow]
  unfold markW
  cases t with
  | true =>
    rw [if_pos rfl]
    have h3 : (bits .andNot .u64 v (2 ^ s)).toNat < 2 ^ 64 := by omega
    have h4 : ((2 : Int) ^ s).toNat < 2 ^ 64 := by omega
    rw [u64_or _ _ ha.1 (by omega) (by omega) (by omega), bitI_toNat (by omega), Int.toNat_natCast, Nat.testBit_or, ← bitI_toNat ha.1, e1, hp, Nat.testBit_two_pow]
    by_cases h : s = j
    · simp [h]
    · simp [h, Ne.symm h]
  | false =>
    rw [if_neg (by simp), e1]
    by_cases h : s = j
    · simp [h]
    · simp [h, Ne.symm h]
def Po.put (p : Po) (x : Nat) (e : Int × Int × Int) : Po := { p with ent := fun y => if y = (x : Int) then some e else p.ent y }
def Po.drop (p : Po) (x : Nat) : Po := { p with ent := fun y => if y = (x : Int) then none else p.ent y, old := fun y => if y = (x : Int) then p.old y + 1 else p.old y }
theorem put_tk (p : Po) (x : Nat) (e : Int × Int × Int) (y : Nat) : (p.put x e).tk y = if y = x then true else p.tk y := by
  unfold Po.tk Po.put
  by_cases h : y = x
  · simp [h]
  · have : ¬ ((y : Int) = (x : Int)) := by omega
    simp [h, this]
theorem drop_tk (p : Po) (x : Nat) (y : Nat) : (p.drop x).tk y = if y = x then false else p.tk y := by
  unfold Po.tk Po.drop
  by_cases h : y = x
  · simp [h]
  · have : ¬ ((y : Int) = (x : Int)) := by omega
    simp [h, this]
theorem put_cnt (p : Po) (x : Nat) (e : Int × Int × Int) (hx : x < p.room) (hf : p.tk x = false) : (p.put x e).cnt = p.cnt + 1 :=
  cntB_add p.tk (p.put x e).tk p.room x hx hf (by rw [put_tk, if_pos rfl]) fun j hj => by rw [put_tk, if_neg hj]
theorem drop_cnt (p : Po) (x : Nat) (hx : x < p.room) (hf : p.tk x = true) : p.cnt = (p.drop x).cnt + 1 :=
  cntB_add (p.drop x).tk p.tk p.room x hx (by rw [drop_tk, if_pos rfl]) hf fun j hj => by rw [drop_tk, if_neg hj]
theorem getD_set (ws : List Int) (i : Nat) (v : Int) (hi : i < ws.length) (j : Nat) : (ws.set i v).getD j 0 = if j = i then v else ws.getD j 0 := by
  rw [List.getD_eq_getElem?_getD, List.getD_eq_getElem?_getD, List.getElem?_set]
  by_cases h : i = j
  · subst h; simp [hi]
  · simp [h, Ne.symm h]
/-- The pool behind Put. -/
theorem PoIn.put {w w' : World} {b be bo bt : Nat} {p : Po} {M1 : List (Ent Int)} {c1 : Nat} {M2 : List (Ent Int)} {c2 : Nat} {ws : List Int} (h : PoIn w b be bo bt p M1 c1 M2 c2 ws) (ok : p.ok) (x : Nat) (hx : x < p.room) (hf : p.tk x = false) (e : Int × Int × Int)
    (hrow : RowAt w' b #[.map (some be), .map (some bo), .slice (some ⟨bt, 0, none⟩) (nw p.room) ws.length, .int .i64 p.room] 69)
    (h1 : MapAt w' be pl (updL (x : Int) (entV e) c1 M1) (updC (x : Int) c1 M1)) (h2 : MapAt w' bo pl M2 c2) (h3 : RowAt w' bt (ints .u64 (ws.set (x / 64) (markW (ws.getD (x / 64) 0) (x % 64) true))) 23) : PoAt w' b be bo bt (p.put x e) := by
  have hn : x / 64 < nw p.room := by unfold nw; omega
  have hl := h.wl
  have hv1 : valL (x : Int) M1 = none := by
    rw [h.v1]
    have : (p.ent (x : Int)).isSome = false := hf
    cases hq : p.ent (x : Int) with
    | none => rfl
    | some e => rw [hq] at this; cases this
  obtain ⟨w0, w1⟩ := h.wr (x / 64)
  refine ⟨_, _, M2, c2, _, ⟨by rw [List.length_set]; exact hrow, h1, h2, h3, h.ok1.upd _ _, h.ok2, fun y => ?_, h.v2, by rw [List.length_set]; exact hl, fun i => ?_, fun i s hi hs => ?_, ?_, h.ne1, h.ne2, h.ne3, h.ne4, h.ne5, h.ne6⟩⟩
  · rw [valL_upd, h.v1]
    unfold Po.put
    dsimp only
    split <;> rfl
  · rw [getD_set _ _ _ (by omega)]
    split
    · exact mark_range _ _ _ w0 w1 (by omega)
    · exact h.wr i
  · rw [getD_set _ _ _ (by omega), put_tk]
    by_cases hi2 : i = x / 64
    · rw [if_pos hi2, mark_bits _ _ _ w0 w1 (by omega) s hs]
      by_cases hs2 : s = x % 64
      · rw [if_pos hs2, if_pos (by omega)]
      · rw [if_neg hs2, if_neg (by omega), ← hi2]
        exact h.wb i s hi hs
    · rw [if_neg hi2, if_neg (by omega)]
      exact h.wb i s hi hs
  · rw [updL_length, hv1, put_cnt p x e hx hf, h.len]
    simp
theorem put_ok {p : Po} (ok : p.ok) (x : Nat) (hx : x < p.room) (e : Int × Int × Int) : (p.put x e).ok :=
  ⟨ok.r1, ok.r2, fun y hy => by
    unfold Po.put at hy ⊢
    dsimp only at hy ⊢
    by_cases h : y = (x : Int)
    · subst h; omega
    · rw [if_neg h] at hy
      exact ok.inr y hy, ok.old⟩
set_option maxHeartbeats 8000000 in
set_option maxRecDepth 100000 in
theorem put_nil (e1 e2 e3 : Int) (w : World) :
    Calls Tryd.prog 9 #[.pointer none, .agg #[.int .u64 e1, .int .u64 e2, .int .u64 e3]] w fun e w' => e = .returned (.tuple #[.int .u64 0, .int .i64 1]) ∧ Below w.heap.size w w' := by
  go_enter Tryd.func9, Tryd.ntmps9
  go_wp2_with fail
  go_ret2
  exact ⟨rfl, below_new (Below.refl _ _) _⟩
set_option maxHeartbeats 8000000 in
set_option maxRecDepth 100000 in
theorem put_free (b be bo bt : Nat) (p : Po) (w : World) (hA : PoAt w b be bo bt p) (ok : p.ok) (hT : Tab w) (e1 e2 e3 : Int) (x : Nat) (hx : x < p.room) (hf : p.tk x = false) (hlow : ∀ y, y < x → p.tk y = true) :
    Calls Tryd.prog 9 #[.pointer (some ⟨b, 0, none⟩), .agg #[.int .u64 e1, .int .u64 e2, .int .u64 e3]] w fun e w' => e = .returned (.tuple #[.int .u64 (hv p x), .int .i64 0]) ∧ PoAt w' b be bo bt (p.put x (e1, e2, e3)) ∧ Only (S3 be bo bt) w w' := by
  obtain ⟨M1, c1, M2, c2, ws, q⟩ := hA
  go_enter Tryd.func9, Tryd.ntmps9
  go_upto_region 3 with fail
  refine wp_name (Pr := fun W => PoIn W b be bo bt p M1 c1 M2 c2 ws ∧ Tab W ∧ RowAt W w.heap.size #[.int .u64 e1, .int .u64 e2, .int .u64 e3] 32 ∧ Below w.heap.size w W) ⟨q.ext (below_new (Below.refl _ _) _), hT.ext (below_new (Below.refl _ _) _), RowAt.new w _ _, below_new (Below.refl _ _) _⟩ ?_
  have hbl : b < w.heap.size := q.row.lt
  have hbel : be < w.heap.size := q.m1.lt
  have hbol : bo < w.heap.size := q.m2.lt
  have hbtl : bt < w.heap.size := q.row3.lt
  clear q hT
  rintro W ⟨q, hT, hE, hB⟩
  have HQ := Lib.hid q
  have HE := Lib.hid hE
  have HB := Lib.hid hB
  have HT := Lib.hid hT
  clear q hE hB hT
  go_upto_region 4 with (go_at_call 30; refine (free_any b be bo bt p _ ⟨M1, c1, M2, c2, ws, HQ.out⟩ ok HT.out).mono ?_; rintro e w1 ⟨f, rfl, hf1, hf2, hf3, hb1⟩)
  obtain rfl : f = x := by
    rcases Nat.lt_trichotomy f x with h | h | h
    · have a := hf2 (by omega); have b := hlow f h; rw [a] at b; cases b
    · exact h
    · have a := hf1 x h hx; rw [hf] at a; cases a
  have q1 := HQ.out.ext hb1
  have e1' := RowAt.ext HE.out hb1
  have B1 := below_then HB.out hb1
  refine wp_name (Pr := fun W => PoIn W b be bo bt p M1 c1 M2 c2 ws ∧ RowAt W w.heap.size #[.int .u64 e1, .int .u64 e2, .int .u64 e3] 32 ∧ RowAt W w1.heap.size #[.int .i64 f] 71 ∧ Below w.heap.size w W) ⟨q1.ext (below_new (Below.refl _ _) _), e1'.alloc _, RowAt.new w1 _ _, below_new B1 _⟩ ?_
  have hgx0 : w.heap.size < w1.heap.size := e1'.lt
  obtain ⟨gx, hgx⟩ : ∃ g, w1.heap.size = g := ⟨_, rfl⟩
  rw [hgx] at hgx0 ⊢
  clear HQ HE HB HT hf1 hf2 hf3 hb1 q1 e1' B1 hgx hlow
  rintro W2 ⟨q, hE, hX, hB⟩
  have HQ := Lib.hid q
  have HE := Lib.hid hE
  have HX := Lib.hid hX
  have HB := Lib.hid hB
  obtain ⟨hkR, _⟩ := Ext.cells q.row
  obtain ⟨hkE, _⟩ := Ext.cells hE
  obtain ⟨hkX, _⟩ := Ext.cells hX
  have s0 : ∀ y : Ext W2.heap.size W2, y.world.cell? ⟨b, 0, none⟩ = some (.map (some be)) := fun y => hkR y 0
  have s3 : ∀ y : Ext W2.heap.size W2, y.world.cell? ⟨b, 3, none⟩ = some (.int .i64 p.room) := fun y => hkR y 3
  have sx : ∀ y : Ext W2.heap.size W2, y.world.cell? ⟨gx, 0, none⟩ = some (.int .i64 f) := fun y => hkX y 0
  have se0 : ∀ y : Ext W2.heap.size W2, y.world.cell? ⟨w.heap.size, 0, none⟩ = some (.int .u64 e1) := fun y => hkE y 0
  have se1 : ∀ y : Ext W2.heap.size W2, y.world.cell? ⟨w.heap.size, 1, none⟩ = some (.int .u64 e2) := fun y => hkE y 1
  have se2 : ∀ y : Ext W2.heap.size W2, y.world.cell? ⟨w.heap.size, 2, none⟩ = some (.int .u64 e3) := fun y => hkE y 2
  clear q hE hX hB hkR hkE hkX
  have dd : decide ((p.room : Int) ≤ (f : Int)) = false := dec_f (by omega)
  have r2 := ok.r2
  refine wp_start (w := W2) ?_
  intro x0
  refine wp_region_ext _ (by kernel_rfl) (by kernel_rfl) ?_
  repeat (go_big_quiet_step (fail))
  refine wpQuiet_nil ?_
  rintro _ ⟨y0, rfl⟩
  go_upto_region 6 with fail
  refine wp_region_ext_tail _ 6 (by kernel_rfl) (by kernel_rfl) (by kernel_rfl) ?_
  simp only [List.take_succ_cons, List.take_zero, List.drop_succ_cons, List.drop_zero]
  repeat (go_big_quiet_step (fail))
  refine wpQuiet_nil ?_
  rintro _ ⟨y, rfl⟩
  have q2 := HQ.out.ext y.ok
  have HM1 := Lib.hid q2.m1
  go_upto_region 7 with (at_mapUpdate; refine wpList_update_at rfl (.tmp 22) (.tmp 23) (.tmp 24) rfl keyEnc_pl Tryd.underlying66 HM1.out rfl (f : Int) rfl (entV (e1, e2, e3)) rfl ?_)
  refine wp_name (Pr := fun W => RowAt W b #[.map (some be), .map (some bo), .slice (some ⟨bt, 0, none⟩) (nw p.room) ws.length, .int .i64 p.room] 69 ∧ MapAt W be pl (updL (f : Int) (entV (e1, e2, e3)) c1 M1) (updC (f : Int) c1 M1) ∧ MapAt W bo pl M2 c2 ∧ RowAt W bt (ints .u64 ws) 23 ∧ RowAt W gx #[.int .i64 f] 71 ∧ Only (S3 be bo bt) w W)
    ⟨q2.row.setB _ q2.ne1, q2.m1.set _ _, q2.m2.setB _ (Ne.symm q2.ne4), q2.row3.setB _ (Ne.symm q2.ne5), (RowAt.ext HX.out y.ok).setB _ (by omega), ((only_of (below_then HB.out y.ok) _).setB (Or.inl rfl) _)⟩ ?_
  have HQ0 := Lib.hid HQ.out
  clear HE HX HB s0 s3 sx se0 se1 se2 q2 HM1 x0 y0 y dd
  rintro W3 ⟨hR, hM1, hM2, hW, hX, hO⟩
  have HR := Lib.hid hR
  have HM1 := Lib.hid hM1
  have HM2 := Lib.hid hM2
  have HW := Lib.hid hW
  have HX := Lib.hid hX
  have HO := Lib.hid hO
  have cx : W3.cell? ⟨gx, 0, none⟩ = some (.int .i64 f) := hX.cell (i := 0) rfl
  have hn64 : nw p.room ≤ 64 := by unfold nw; omega
  have hif : f / 64 < nw p.room := by unfold nw; omega
  have hne3 := HQ0.out.ne3
  have hwl := HQ0.out.wl
  have NE := Lib.hid (show be ≠ bt ∧ bo ≠ bt ∧ gx ≠ bt from ⟨HQ0.out.ne5, HQ0.out.ne6, by omega⟩)
  clear hR hM1 hM2 hW hX hO
  go_upto_region 8 with (go_at_call 31; refine (mark_true b bt (nw p.room) _ _ _ _ ws (f / 64) (f % 64) (f : Int) _ HR.out HW.out hwl hn64 hif (by omega) (by omega) hne3).mono ?_; rintro e w4 ⟨rfl, hW4, hb4⟩)
  have hP : PoAt w4 b be bo bt (p.put f (e1, e2, e3)) := HQ0.out.put ok f hx hf (e1, e2, e3) (HR.out.but hb4 hne3) (HM1.out.but hb4 NE.out.1) (HM2.out.but hb4 NE.out.2.1) hW4
  have cx4 : w4.cell? ⟨gx, 0, none⟩ = some (.int .i64 f) := (HX.out.but hb4 NE.out.2.2).cell (i := 0) rfl
  have HP := Lib.hid hP
  have HO4 := Lib.hid (HO.out.trans (only_but hb4 (S := S3 be bo bt) (Or.inr (Or.inr rfl))))
  clear hP hb4 hW4 HR HM1 HM2 HW HX HO cx
  go_wp2_with (go_at_call 32; refine (handle_any b be bo bt (p.put f (e1, e2, e3)) _ HP.out (put_ok ok f hx _) (f : Int) (by omega) (by omega)).mono ?_; rintro e w5 ⟨rfl, hb5⟩)
  go_ret2
  exact ⟨rfl, HP.out.ext hb5, HO4.out.ext hb5⟩
set_option maxHeartbeats 8000000 in
set_option maxRecDepth 100000 in
theorem put_full (b be bo bt : Nat) (p : Po) (w : World) (hA : PoAt w b be bo bt p) (ok : p.ok) (hT : Tab w) (e1 e2 e3 : Int) (hfull : ∀ y, y < p.room → p.tk y = true) :
    Calls Tryd.prog 9 #[.pointer (some ⟨b, 0, none⟩), .agg #[.int .u64 e1, .int .u64 e2, .int .u64 e3]] w fun e w' => e = .returned (.tuple #[.int .u64 0, .int .i64 8]) ∧ Below w.heap.size w w' := by
  obtain ⟨M1, c1, M2, c2, ws, q⟩ := hA
  go_enter Tryd.func9, Tryd.ntmps9
  go_upto_region 3 with fail
  refine wp_name (Pr := fun W => PoIn W b be bo bt p M1 c1 M2 c2 ws ∧ Tab W ∧ RowAt W w.heap.size #[.int .u64 e1, .int .u64 e2, .int .u64 e3] 32 ∧ Below w.heap.size w W) ⟨q.ext (below_new (Below.refl _ _) _), hT.ext (below_new (Below.refl _ _) _), RowAt.new w _ _, below_new (Below.refl _ _) _⟩ ?_
  have hbl : b < w.heap.size := q.row.lt
  have hbel : be < w.heap.size := q.m1.lt
  have hbol : bo < w.heap.size := q.m2.lt
  have hbtl : bt < w.heap.size := q.row3.lt
  clear q hT
  rintro W ⟨q, hT, hE, hB⟩
  have HQ := Lib.hid q
  have HE := Lib.hid hE
  have HB := Lib.hid hB
  have HT := Lib.hid hT
  clear q hE hB hT
  go_upto_region 4 with (go_at_call 30; refine (free_any b be bo bt p _ ⟨M1, c1, M2, c2, ws, HQ.out⟩ ok HT.out).mono ?_; rintro e w1 ⟨f, rfl, hf1, hf2, hf3, hb1⟩)
  have hfr : p.room ≤ f := by
    rcases Nat.lt_or_ge f p.room with h | h
    · have a := hf2 h; rw [hfull f h] at a; cases a
    · exact h
  have q1 := HQ.out.ext hb1
  have B1 := below_then HB.out hb1
  refine wp_name (Pr := fun W => PoIn W b be bo bt p M1 c1 M2 c2 ws ∧ RowAt W w1.heap.size #[.int .i64 f] 71 ∧ Below w.heap.size w W) ⟨q1.ext (below_new (Below.refl _ _) _), RowAt.new w1 _ _, below_new B1 _⟩ ?_
  obtain ⟨gx, hgx⟩ : ∃ g, w1.heap.size = g := ⟨_, rfl⟩
  rw [hgx]
  clear HQ HE HB HT hf1 hf2 hb1 q1 B1 hgx hfull
  rintro W2 ⟨q, hX, hB⟩
  have HB := Lib.hid hB
  obtain ⟨hkR, _⟩ := Ext.cells q.row
  obtain ⟨hkX, _⟩ := Ext.cells hX
  have s3 : ∀ y : Ext W2.heap.size W2, y.world.cell? ⟨b, 3, none⟩ = some (.int .i64 p.room) := fun y => hkR y 3
  have sx : ∀ y : Ext W2.heap.size W2, y.world.cell? ⟨gx, 0, none⟩ = some (.int .i64 f) := fun y => hkX y 0
  clear q hX hB hkR hkX
  have dd : decide ((p.room : Int) ≤ (f : Int)) = true := dec_t (by omega)
  have r2 := ok.r2
  refine wp_start (w := W2) ?_
  intro x0
  refine wp_region_ext _ (by kernel_rfl) (by kernel_rfl) ?_
  repeat (go_big_quiet_step (fail))
  refine wpQuiet_nil ?_
  rintro _ ⟨y0, rfl⟩
  go_wp2_with fail
  go_ret2
  exact ⟨rfl, below_then HB.out y0.ok⟩
end Go.Proofs.YtelnembjcgkiaaaDoor
