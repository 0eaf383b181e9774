/- A pool's Set, Room, Handle of no entry. -/
import Derived.Test.YtelnembjcgkiaaaDoorPoH
namespace Go.Proofs.YtelnembjcgkiaaaDoor
open Go.RowKit
set_option linter.unusedVariables false
set_option linter.unusedSimpArgs false

/-- What Set makes of a pool. -/
def Po.set (p : Po) (x : Nat) (e : Int × Int × Int) : Po := { p with ent := fun y => if y = (x : Int) then some e else p.ent y }
theorem set_tk (p : Po) (x : Nat) (e : Int × Int × Int) (ht : p.tk x = true) (y : Nat) : (p.set x e).tk y = p.tk y := by
  unfold Po.tk Po.set
  dsimp only
  by_cases h : (y : Int) = (x : Int)
  · rw [if_pos h, h]
    exact ht.symm
  · rw [if_neg h]
theorem set_ok {p : Po} (ok : p.ok) (x : Nat) (hx : x < p.room) (e : Int × Int × Int) : (p.set x e).ok := by
  refine ⟨ok.r1, ok.r2, fun y hy => ?_, ok.old⟩
  unfold Po.set at hy
  dsimp only at hy
  split at hy
  · rename_i h
    rw [h]
    exact ⟨by omega, by show (x : Int) < (p.room : Int); omega⟩
  · exact ok.inr y hy
theorem set_cnt (p : Po) (x : Nat) (e : Int × Int × Int) (ht : p.tk x = true) : (p.set x e).cnt = p.cnt := cntB_congr _ _ _ fun i _ => set_tk p x e ht i
theorem PoIn.setE {w w' : World} {b be bo bt : Nat} {p : Po} {M1 : List (Ent Int)} {c1 : Nat} {M2 : List (Ent Int)} {c2 : Nat} {ws : List Int} (h : PoIn w b be bo bt p M1 c1 M2 c2 ws) (x : Nat) (ht : p.tk x = true) (e : Int × Int × Int)
    (hrow : RowAt w' b #[.map (some be), .map (some bo), .slice (some ⟨bt, 0, none⟩) (nw p.room) ws.length, .int .i64 p.room] 69)
    (h1 : MapAt w' be pl (updL (x : Int) (entV e) c1 M1) (updC (x : Int) c1 M1)) (h2 : MapAt w' bo pl M2 c2) (h3 : RowAt w' bt (ints .u64 ws) 23) : PoAt w' b be bo bt (p.set x e) := by
  have hv1 : (valL (x : Int) M1).isSome = true := by
    rw [h.v1, Option.isSome_map]
    exact ht
  refine ⟨_, _, M2, c2, ws, ⟨hrow, h1, h2, h3, h.ok1.upd _ _, h.ok2, fun y => ?_, h.v2, h.wl, h.wr, fun i s hi hs => ?_, ?_, h.ne1, h.ne2, h.ne3, h.ne4, h.ne5, h.ne6⟩⟩
  · rw [valL_upd, h.v1]
    unfold Po.set
    dsimp only
    split <;> rfl
  · rw [set_tk p x e ht]
    exact h.wb i s hi hs
  · rw [updL_length, if_pos hv1, h.len, set_cnt p x e ht]
set_option maxHeartbeats 8000000 in
set_option maxRecDepth 100000 in
theorem set_no (b be bo bt : Nat) (p : Po) (w : World) (hA : PoAt w b be bo bt p) (ok : p.ok) (h : Int) (h0 : 0 ≤ h) (h1 : h ≤ 18446744073709551615) (e1 e2 e3 : Int) (hf : (findI p h).2 = false) :
    Calls Tryd.prog 23 #[.pointer (some ⟨b, 0, none⟩), .int .u64 h, .agg #[.int .u64 e1, .int .u64 e2, .int .u64 e3]] w fun e w' => e = .returned (.bool false) ∧ Below w.heap.size w w' := by
  go_enter Tryd.func23, Tryd.ntmps23
  go_upto_region 1 with fail
  refine wp_name (Pr := fun W => RowAt W w.heap.size #[.int .u64 e1, .int .u64 e2, .int .u64 e3] 32 ∧ PoAt W b be bo bt p ∧ Below w.heap.size w W) ⟨RowAt.new w _ _, hA.ext (below_new (Below.refl _ _) _), below_new (Below.refl _ _) _⟩ ?_
  rintro W ⟨hz, hA2, hB⟩
  have hc := find_any b be bo bt p W hA2 ok h h0 h1
  rw [hf] at hc
  have HC := Lib.hid hc
  have HZ := Lib.hid hz
  have HB := Lib.hid hB
  have HA2 := Lib.hid hA2
  clear hc hz hB hA2 hA
  go_wp2_with (go_at_call 33; refine HC.out.mono ?_; rintro e w1 ⟨rfl, hb1⟩; dsimp only [findI])
  go_ret
  exact ⟨rfl, below_new (below_then HB.out hb1) _⟩
set_option maxHeartbeats 8000000 in
set_option maxRecDepth 100000 in
theorem set_yes (b be bo bt : Nat) (p : Po) (w : World) (hA : PoAt w b be bo bt p) (ok : p.ok) (h : Int) (h0 : 0 ≤ h) (h1 : h ≤ 18446744073709551615) (e1 e2 e3 : Int) (x : Nat) (hx : x < p.room) (ht : p.tk x = true) (hfx : h % 4096 = (x : Int)) (hf : (findI p h).2 = true) :
    Calls Tryd.prog 23 #[.pointer (some ⟨b, 0, none⟩), .int .u64 h, .agg #[.int .u64 e1, .int .u64 e2, .int .u64 e3]] w fun e w' => e = .returned (.bool true) ∧ PoAt w' b be bo bt (p.set x (e1, e2, e3)) ∧ Only (S3 be bo bt) w w' := by
  have hltt : be < w.heap.size ∧ bo < w.heap.size ∧ bt < w.heap.size := by obtain ⟨M1, c1, M2, c2, ws, q⟩ := hA; exact ⟨q.m1.lt, q.m2.lt, q.row3.lt⟩
  have HLT := Lib.hid hltt
  clear hltt
  go_enter Tryd.func23, Tryd.ntmps23
  go_upto_region 1 with fail
  refine wp_name (Pr := fun W => RowAt W w.heap.size #[.int .u64 e1, .int .u64 e2, .int .u64 e3] 32 ∧ PoAt W b be bo bt p ∧ Below w.heap.size w W) ⟨RowAt.new w _ _, hA.ext (below_new (Below.refl _ _) _), below_new (Below.refl _ _) _⟩ ?_
  rintro W ⟨hz, hA2, hB⟩
  have hc := find_any b be bo bt p W hA2 ok h h0 h1
  rw [hf] at hc
  have HC := Lib.hid hc
  have HZ := Lib.hid hz
  have HB := Lib.hid hB
  have HA2 := Lib.hid hA2
  clear hc hz hB hA2 hA
  have HFX := Lib.hid hfx
  go_upto_region 3 with (go_at_call 33; refine HC.out.mono ?_; rintro e w1 ⟨rfl, hb1⟩; dsimp only [findI])
  rw [HFX.out]
  clear hfx
  have hb2 := below_then HB.out hb1
  refine wp_name (Pr := fun W2 => RowAt W2 w.heap.size #[.int .u64 e1, .int .u64 e2, .int .u64 e3] 32 ∧ RowAt W2 w1.heap.size #[.int .i64 (x : Int)] 71 ∧ PoAt W2 b be bo bt p ∧ Below w.heap.size w W2) ⟨(RowAt.ext HZ.out hb1).alloc _, RowAt.new w1 _ _, (HA2.out.ext hb1).ext (below_new (Below.refl _ _) _), below_new hb2 _⟩ ?_
  have hgx : w.heap.size ≤ w1.heap.size := hb2.size
  have HGX := Lib.hid hgx
  clear HZ HB HA2 HC hb1 hb2 hgx
  rintro W2 ⟨hz, hx1, hA, hB⟩
  obtain ⟨M1, c1, M2, c2, ws, q⟩ := hA
  have HQ := Lib.hid q
  have HB := Lib.hid hB
  obtain ⟨hkR, _⟩ := Ext.cells q.row
  obtain ⟨hkZ, _⟩ := Ext.cells hz
  obtain ⟨hkX, _⟩ := Ext.cells hx1
  have s0 : ∀ y : Ext W2.heap.size W2, y.world.cell? ⟨b, 0, none⟩ = some (.map (some be)) := fun y => hkR y 0
  have s1 : ∀ y : Ext W2.heap.size W2, y.world.cell? ⟨w.heap.size, 0, none⟩ = some (.int .u64 e1) := fun y => hkZ y 0
  have s2 : ∀ y : Ext W2.heap.size W2, y.world.cell? ⟨w.heap.size, 1, none⟩ = some (.int .u64 e2) := fun y => hkZ y 1
  have s3 : ∀ y : Ext W2.heap.size W2, y.world.cell? ⟨w.heap.size, 2, none⟩ = some (.int .u64 e3) := fun y => hkZ y 2
  have s4 : ∀ y : Ext W2.heap.size W2, y.world.cell? ⟨w1.heap.size, 0, none⟩ = some (.int .i64 (x : Int)) := fun y => hkX y 0
  clear q hz hx1 hB hkR hkZ hkX
  refine wp_start (w := W2) ?_
  intro x0
  refine wp_region_ext_tail _ 6 (by kernel_rfl) (by kernel_rfl) (by kernel_rfl) ?_
  simp only [List.take_succ_cons, List.take_zero, List.drop_succ_cons, List.drop_zero]
  repeat (go_big_quiet_step (fail))
  refine wpQuiet_nil ?_
  rintro _ ⟨y, rfl⟩
  clear s0 s1 s2 s3 s4
  have HQY := Lib.hid (HQ.out.ext y.ok)
  have HMY := Lib.hid HQY.out.m1
  have HBY := Lib.hid (below_then HB.out y.ok)
  go_wp2_with (at_mapUpdate; refine wpList_update_at rfl (.tmp 19) (.tmp 20) (.tmp 21) rfl keyEnc_pl Tryd.underlying66 HMY.out rfl (x : Int) rfl (entV (e1, e2, e3)) rfl ?_)
  go_ret
  refine ⟨rfl, HQY.out.setE x ht (e1, e2, e3) (HQY.out.row.setB _ HQY.out.ne1) (HMY.out.set _ _) (HQY.out.m2.setB _ (Ne.symm HQY.out.ne4)) (HQY.out.row3.setB _ (Ne.symm HQY.out.ne5)), (only_of HBY.out _).setB (Or.inl rfl) _⟩
set_option maxHeartbeats 8000000 in
set_option maxRecDepth 100000 in
theorem room_any (b be bo bt : Nat) (p : Po) (w : World) (hA : PoAt w b be bo bt p) :
    Calls Tryd.prog 29 #[.pointer (some ⟨b, 0, none⟩)] w fun e w' => e = .returned (.int .i64 p.room) ∧ Below w.heap.size w w' := by
  obtain ⟨M1, c1, M2, c2, ws, q⟩ := hA
  have c3 : w.cell? ⟨b, 3, none⟩ = some (.int .i64 p.room) := q.row.cell (i := 3) rfl
  clear q
  go_enter Tryd.func29, Tryd.ntmps29
  go_wp2_with fail
  go_ret
  exact ⟨rfl, Below.refl _ _⟩
end Go.Proofs.YtelnembjcgkiaaaDoor
