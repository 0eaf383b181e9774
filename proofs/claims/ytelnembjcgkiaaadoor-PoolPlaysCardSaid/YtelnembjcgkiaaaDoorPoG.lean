/- The pool: Drop. -/
import Derived.Test.YtelnembjcgkiaaaDoorPoF
import Derived.Test.YtelnembjcgkiaaaDoorMapR
namespace Go.Proofs.YtelnembjcgkiaaaDoor
open Go.RowKit
set_option linter.unusedVariables false
set_option linter.unusedSimpArgs false

theorem PoIn.drop {w w' : World} {b be bo bt : Nat} {p : Po} {M1 : List (Ent Int)} {c1 : Nat} {M2 : List (Ent Int)} {c2 : Nat} {ws : List Int} (h : PoIn w b be bo bt p M1 c1 M2 c2 ws) (ok : p.ok) (x : Nat) (hx : x < p.room) (hf : p.tk x = true)
    (hrow : RowAt w' b #[.map (some be), .map (some bo), .slice (some ⟨bt, 0, none⟩) (nw p.room) ws.length, .int .i64 p.room] 69)
    (h1 : MapAt w' be pl (delL (x : Int) M1) c1) (h2 : MapAt w' bo pl (updL (x : Int) (.int .u64 ((p.old x : Int) + 1)) c2 M2) (updC (x : Int) c2 M2)) (h3 : RowAt w' bt (ints .u64 (ws.set (x / 64) (markW (ws.getD (x / 64) 0) (x % 64) false))) 23) : PoAt w' b be bo bt (p.drop x) := by
  have hn : x / 64 < nw p.room := by unfold nw; omega
  have hl := h.wl
  have hv1 : (valL (x : Int) M1).isSome = true := by
    rw [h.v1]
    have : (p.ent (x : Int)).isSome = true := hf
    cases hq : p.ent (x : Int) with
    | none => rw [hq] at this; cases this
    | some e => rfl
  obtain ⟨w0, w1⟩ := h.wr (x / 64)
  refine ⟨_, _, _, _, _, ⟨by rw [List.length_set]; exact hrow, h1, h2, h3, h.ok1.del _, h.ok2.upd _ _, fun y => ?_, fun y => ?_, by rw [List.length_set]; exact hl, fun i => ?_, fun i s hi hs => ?_, ?_, h.ne1, h.ne2, h.ne3, h.ne4, h.ne5, h.ne6⟩⟩
  · rw [valL_del _ _ _ h.ok1.keys, h.v1]
    unfold Po.drop
    dsimp only
    split <;> rfl
  · rw [valL_upd]
    unfold Po.drop
    dsimp only
    split
    · rename_i e
      rw [e]
      simp
    · exact h.v2 y
  · rw [getD_set _ _ _ (by omega)]
    split
    · exact mark_range _ _ _ w0 w1 (by omega)
    · exact h.wr i
  · rw [getD_set _ _ _ (by omega), drop_tk]
    by_cases hi2 : i = x / 64
    · rw [if_pos hi2, mark_bits _ _ _ w0 w1 (by omega) s hs]
      by_cases hs2 : s = x % 64
      · rw [if_pos hs2, if_pos (by omega)]
      · rw [if_neg hs2, if_neg (by omega), ← hi2]
        exact h.wb i s hi hs
    · rw [if_neg hi2, if_neg (by omega)]
      exact h.wb i s hi hs
  · rw [delL_length, hv1, if_pos rfl, h.len, drop_cnt p x hx hf]
    omega
theorem drop_ok {p : Po} (ok : p.ok) (x : Nat) (ho : p.old x + 1 < 1000000000) : (p.drop x).ok :=
  ⟨ok.r1, ok.r2, fun y hy => by
    unfold Po.drop at hy ⊢
    dsimp only at hy ⊢
    by_cases h : y = (x : Int)
    · rw [if_pos h] at hy; cases hy
    · rw [if_neg h] at hy
      exact ok.inr y hy, fun y => by
    unfold Po.drop
    dsimp only
    split
    · rename_i e; rw [e]; exact ho
    · exact ok.old y⟩
set_option maxHeartbeats 8000000 in
set_option maxRecDepth 100000 in
theorem drop_nil (h : Int) (w : World) :
    Calls Tryd.prog 10 #[.pointer none, .int .u64 h] w fun e w' => e = .returned (.bool false) ∧ Below w.heap.size w w' := by
  go_enter Tryd.func10, Tryd.ntmps10
  go_wp2_with (go_at_call 33; refine (find_nil _ _).mono ?_; rintro e w1 ⟨rfl, hb1⟩)
  go_ret
  exact ⟨rfl, below_new hb1 _⟩
set_option maxHeartbeats 8000000 in
set_option maxRecDepth 100000 in
theorem drop_no (b be bo bt : Nat) (p : Po) (w : World) (hA : PoAt w b be bo bt p) (ok : p.ok) (h : Int) (h0 : 0 ≤ h) (h1 : h ≤ 18446744073709551615) (hf : (findI p h).2 = false) :
    Calls Tryd.prog 10 #[.pointer (some ⟨b, 0, none⟩), .int .u64 h] w fun e w' => e = .returned (.bool false) ∧ Below w.heap.size w w' := by
  have hc := find_any b be bo bt p w hA ok h h0 h1
  rw [hf] at hc
  have HC := Lib.hid hc
  clear hc hf
  go_enter Tryd.func10, Tryd.ntmps10
  go_wp2_with (go_at_call 33; refine HC.out.mono ?_; rintro e w1 ⟨rfl, hb1⟩; dsimp only [findI])
  go_ret
  exact ⟨rfl, below_new hb1 _⟩
set_option maxHeartbeats 8000000 in
set_option maxRecDepth 100000 in
theorem drop_yes (b be bo bt : Nat) (p : Po) (w : World) (hA : PoAt w b be bo bt p) (ok : p.ok) (x : Nat) (hx : x < p.room) (ht : p.tk x = true) :
    Calls Tryd.prog 10 #[.pointer (some ⟨b, 0, none⟩), .int .u64 (hv p x)] w fun e w' => e = .returned (.bool true) ∧ PoAt w' b be bo bt (p.drop x) ∧ Only (S3 be bo bt) w w' := by
  have hold := ok.old x
  have r2 := ok.r2
  have hvd : hv p x = ((p.old x : Int) + 1) * 4096 + x := rfl
  have hm : hv p x % 4096 = (x : Int) := by rw [hvd]; omega
  have hfi : findI p (hv p x) = ((x : Int), true) := by
    unfold findI
    rw [hm]
    have : (p.ent (x : Int)).isSome = true := ht
    rw [this, beq_self_eq_true]
    rfl
  have hc := find_any b be bo bt p w hA ok (hv p x) (by rw [hvd]; omega) (by rw [hvd]; omega)
  rw [hfi] at hc
  have HC := Lib.hid hc
  have HT := Lib.hid ht
  obtain ⟨H, hH⟩ : ∃ H, hv p x = H := ⟨_, rfl⟩
  rw [hH] at HC ⊢
  have hbl : b < w.heap.size ∧ be < w.heap.size ∧ bo < w.heap.size ∧ bt < w.heap.size := by
    obtain ⟨M1, c1, M2, c2, ws, q⟩ := hA
    exact ⟨q.row.lt, q.m1.lt, q.m2.lt, q.row3.lt⟩
  obtain ⟨hbl, hbel, hbol, hbtl⟩ := hbl
  have HA := Lib.hid hA
  clear hA hc hfi hm hvd hH ht
  go_enter Tryd.func10, Tryd.ntmps10
  go_upto_region 2 with (go_at_call 33; refine HC.out.mono ?_; rintro e w1 ⟨rfl, hb1⟩)
  refine wp_name (Pr := fun W => PoAt W b be bo bt p ∧ RowAt W w1.heap.size #[.int .i64 x] 71 ∧ Below w.heap.size w W) ⟨(HA.out.ext hb1).ext (below_new (Below.refl _ _) _), RowAt.new w1 _ _, below_new hb1 _⟩ ?_
  have hgx0 : w.heap.size ≤ w1.heap.size := hb1.size
  obtain ⟨gx, hgx⟩ : ∃ g, w1.heap.size = g := ⟨_, rfl⟩
  rw [hgx] at hgx0 ⊢
  clear HA HC hb1 hgx
  rintro W ⟨⟨M1, c1, M2, c2, ws, q⟩, hX, hB⟩
  have HQ := Lib.hid q
  have HX := Lib.hid hX
  have HB := Lib.hid hB
  obtain ⟨hkR, _⟩ := Ext.cells q.row
  obtain ⟨hkX, _⟩ := Ext.cells hX
  have s0 : ∀ y : Ext W.heap.size W, y.world.cell? ⟨b, 0, none⟩ = some (.map (some be)) := fun y => hkR y 0
  have sx : ∀ y : Ext W.heap.size W, y.world.cell? ⟨gx, 0, none⟩ = some (.int .i64 x) := fun y => hkX y 0
  have NE := Lib.hid (show (b ≠ be ∧ b ≠ bo ∧ b ≠ bt ∧ be ≠ bo ∧ be ≠ bt ∧ bo ≠ bt) ∧ gx ≠ be ∧ gx ≠ bo ∧ gx ≠ bt from ⟨⟨q.ne1, q.ne2, q.ne3, q.ne4, q.ne5, q.ne6⟩, by omega, by omega, by omega⟩)
  clear q hX hB hkR hkX
  refine wp_start (w := W) ?_
  intro x0
  go_upto_region 3 with fail
  refine wp_region_ext_tail _ 5 (by kernel_rfl) (by kernel_rfl) (by kernel_rfl) ?_
  simp only [List.take_succ_cons, List.take_zero, List.drop_succ_cons, List.drop_zero]
  repeat (go_big_quiet_step (fail))
  refine wpQuiet_nil ?_
  rintro _ ⟨y, rfl⟩
  have q2 := HQ.out.ext y.ok
  have hdel : (Builtin.delete_ #[66, 71] 0 #[.map (some be), .agg #[.int .i64 (x : Int)]]).run Tryd.prog y.world = .ok (.tuple #[]) (setB y.world be (mapObj pl (delL (x : Int) M1) c1)) := run_delete_at keyEnc_pl Tryd.underlying66 q2.m1 (x : Int) 0
  go_upto_region 4 with (first | simp only [hdel] | fail)
  refine wp_name (Pr := fun W => RowAt W b #[.map (some be), .map (some bo), .slice (some ⟨bt, 0, none⟩) (nw p.room) ws.length, .int .i64 p.room] 69 ∧ MapAt W be pl (delL (x : Int) M1) c1 ∧ MapAt W bo pl M2 c2 ∧ RowAt W bt (ints .u64 ws) 23 ∧ RowAt W gx #[.int .i64 x] 71 ∧ Only (S3 be bo bt) w W)
    ⟨q2.row.setB _ NE.out.1.1, q2.m1.set _ _, q2.m2.setB _ (Ne.symm NE.out.1.2.2.2.1), q2.row3.setB _ (Ne.symm NE.out.1.2.2.2.2.1), (RowAt.ext HX.out y.ok).setB _ NE.out.2.1, (only_of (below_then HB.out y.ok) _).setB (Or.inl rfl) _⟩ ?_
  clear HX HB s0 sx q2 hdel x0 y
  rintro W3 ⟨hR, hM1, hM2, hW, hX, hO⟩
  have HR := Lib.hid hR
  have HM1 := Lib.hid hM1
  have HW := Lib.hid hW
  have HX := Lib.hid hX
  have HO := Lib.hid hO
  have hv2 := HQ.out.v2 (x : Int)
  have hok2 := HQ.out.ok2
  have hz : ∀ w, (zeroValue 23).run Tryd.prog w = .ok (.int .u64 0) w := fun w => by kernel_rfl
  have r5 := run_lookup_at keyEnc_pl Tryd.underlying67 (hz _) hM2.drew (x : Int) false
  have r7 := run_entry_at keyEnc_pl Tryd.underlying67 hz hM2.drew (x : Int)
  simp only [Bool.false_eq_true, if_false] at r5
  rw [hv2] at r5 r7
  have hM3 := hM2.drew.set (updL (x : Int) (.int .u64 (p.old (x : Int))) c2 M2) (updC (x : Int) c2 M2)
  obtain ⟨W4, hW4⟩ : ∃ W4, setB W3.drew bo (mapObj pl (updL (x : Int) (.int .u64 (p.old (x : Int))) c2 M2) (updC (x : Int) c2 M2)) = W4 := ⟨_, rfl⟩
  rw [hW4] at r7 hM3
  have r5b := run_lookup_at keyEnc_pl Tryd.underlying67 (hz _) hM3 (x : Int) false
  simp only [Bool.false_eq_true, if_false, valL_upd, if_true, Option.getD_some] at r5b
  have r9 := run_entryStore_at (P := Tryd.prog) (mt := 67) hok2 hM3 (.int .u64 (IntKind.u64.wrap ((p.old (x : Int) : Int) + 1)))
  have hM5 := hM3.set (updL (x : Int) (.int .u64 (IntKind.u64.wrap ((p.old (x : Int) : Int) + 1))) c2 M2) (updC (x : Int) c2 M2)
  obtain ⟨W5, hW5⟩ : ∃ W5, setB W4 bo (mapObj pl (updL (x : Int) (.int .u64 (IntKind.u64.wrap ((p.old (x : Int) : Int) + 1))) c2 M2) (updC (x : Int) c2 M2)) = W5 := ⟨_, rfl⟩
  rw [hW5] at r9 hM5
  rw [show IntKind.u64.wrap ((p.old (x : Int) : Int) + 1) = (p.old (x : Int) : Int) + 1 by rw [IntKind.wrap_u64]; omega] at hM5
  have hb4 : But bo W3 W4 := by rw [← hW4]; exact (But.refl bo W3).drew.trans (but_setB _ _ _)
  have hb5 : But bo W3 W5 := by rw [← hW5]; exact hb4.trans (but_setB _ _ _)
  have HM5 := Lib.hid hM5
  have HB5 := Lib.hid hb5
  have hs0 : W3.drew.cell? ⟨b, 1, none⟩ = some (.map (some bo)) ∧ W3.drew.cell? ⟨gx, 0, none⟩ = some (.int .i64 x) := ⟨HR.out.drew.cell (i := 1) rfl, HX.out.drew.cell (i := 0) rfl⟩
  have hs1 : W4.cell? ⟨b, 1, none⟩ = some (.map (some bo)) ∧ W4.cell? ⟨gx, 0, none⟩ = some (.int .i64 x) := ⟨(HR.out.but hb4 NE.out.1.2.1).cell (i := 1) rfl, (HX.out.but hb4 NE.out.2.2.1).cell (i := 0) rfl⟩
  have hs2 : W5.cell? ⟨b, 1, none⟩ = some (.map (some bo)) ∧ W5.cell? ⟨gx, 0, none⟩ = some (.int .i64 x) := ⟨(HR.out.but hb5 NE.out.1.2.1).cell (i := 1) rfl, (HX.out.but hb5 NE.out.2.2.1).cell (i := 0) rfl⟩
  unfold pl at r5 r5b r7
  unfold goInt at r7 r9
  clear hR hM1 hM2 hW hX hO hM3 hW4 hM5 hW5 hb4 hb5 hv2 hok2 hz
  obtain ⟨Z, hZ⟩ : ∃ Z : Int, (p.old (x : Int) : Int) = Z := ⟨_, rfl⟩
  obtain ⟨st, hst⟩ : ∃ st : Int, ((stampL (x : Int) M2 c2 : Nat) : Int) = st := ⟨_, rfl⟩
  rw [hZ] at r5 r5b r7 r9
  rw [hst] at r7 r9
  clear hZ hst
  go_region_held3 (fun w' => w'.cell? ⟨b, 1, none⟩ = some (.map (some bo)) ∧ w'.cell? ⟨gx, 0, none⟩ = some (.int .i64 x))
    (first | exact hs0 | exact hs1 | exact hs2)
    (fail)
  all_goals
    dsimp only [Exit.then]
    refine k_name (Pr := fun W => W = W5) rfl ?_
    rintro W rfl
    clear hs0 hs1 hs2 r5 r5b r7 r9
    have cx : W.cell? ⟨gx, 0, none⟩ = some (.int .i64 x) := (HX.out.but HB5.out NE.out.2.2.1).cell (i := 0) rfl
    have hn64 : nw p.room ≤ 64 := by unfold nw; omega
    have hif : x / 64 < nw p.room := by unfold nw; omega
    have hwl := HQ.out.wl
    have HR5 := Lib.hid (HR.out.but HB5.out NE.out.1.2.1)
    have HM15 := Lib.hid (HM1.out.but HB5.out NE.out.1.2.2.2.1)
    have HW5 := Lib.hid (HW.out.but HB5.out (Ne.symm NE.out.1.2.2.2.2.2))
    have HO5 := Lib.hid (HO.out.trans (only_but HB5.out (S := S3 be bo bt) (Or.inr (Or.inl rfl))))
    clear HR HM1 HW HX HO HB5
    go_at_K
    go_upto_region 6 with (go_at_call 31; refine (mark_false b bt (nw p.room) _ _ _ _ ws (x / 64) (x % 64) (x : Int) _ HR5.out HW5.out hwl hn64 hif (by omega) (by omega) NE.out.1.2.2.1).mono ?_; rintro e w6 ⟨rfl, hW6, hb6⟩)
    have HP := Lib.hid (HQ.out.drop ok x hx HT.out (HR5.out.but hb6 NE.out.1.2.2.1) (HM15.out.but hb6 NE.out.1.2.2.2.2.1) (HM5.out.but hb6 NE.out.1.2.2.2.2.2) hW6)
    have HO6 := Lib.hid (HO5.out.trans (only_but hb6 (S := S3 be bo bt) (Or.inr (Or.inr rfl))))
    clear hb6 hW6
    go_wp2_with fail
    go_ret
    exact ⟨rfl, HP.out, HO6.out⟩
end Go.Proofs.YtelnembjcgkiaaaDoor
