/- A bus in memory: New, Attach. -/
import Derived.Test.YtgkklgebgabncaaBuB
import Derived.Test.YtgkklgebgabncaaFiA
namespace Go.Proofs.Ytgkklgebgabncaa
open Go.RowKit
set_option linter.unusedVariables false
set_option linter.unusedSimpArgs false
open Go.Lib Go.Sort
theorem run_len_at {κ : Type} [DecidableEq κ] {P : Program} {w : World} {b : Nat} {enc : κ → Value} {L : List (Ent κ)} {clock : Nat} {kt et mt : TypeId} (ht : P.underlying mt = some (.map kt et)) (h : MapAt w b enc L clock) (ty : TypeId) :
    (Builtin.len_ #[mt] ty #[.map (some b)]).run P w = .ok (.int .i64 L.length) w := by
  have hgo : (getObj b).run P w = .ok (.map (L.map (Ent.obj enc)).toArray clock) w := run_getObj_some h
  simp [Builtin.len_, run_underlying ht, hgo, Sem.run_bind, Result.andThen, goInt]
abbrev Rn := List (Ent (Int × Int))
structure BuOk (M : Rn) : Prop where
  rg : ∀ p ∈ M, R32 p.1
  len : M.length ≤ 64
def attE (M : Rn) (r : Int × Int) : Int :=
  if ¬ r.1 % 4 = 0 ∨ ¬ r.2 % 4 = 0 then 11 else if r.2 = 0 ∨ 4294967296 < r.1 + r.2 then 5 else if 64 ≤ M.length then 6 else if M.any (fun p => meetB p.1 r) then 15 else 0
set_option maxHeartbeats 8000000 in
set_option maxRecDepth 100000 in
theorem bnew_any (w : World) :
    Calls Try.prog 30 #[] w fun e w' => ∃ b bm, e = .returned (.pointer (some ⟨b, 0, none⟩)) ∧ w.heap.size ≤ b ∧ w.heap.size ≤ bm ∧ BuAt w' b bm [] 0 ∧ Below w.heap.size w w' := by
  have hmm := @run_makeMap Try.prog
  go_enter Try.func30, Try.ntmps30
  go_wp2_with fail
  go_ret
  exact ⟨w.heap.size + 1, w.heap.size, by simp, by omega, Nat.le_refl _, { row := by have h := RowAt.new (w.alloc (.map #[] 0)) #[.map (some w.heap.size)] 111 ; simpa using h, m := (MapAt.new w rk).alloc _, ok := MapOk.nil, ne := by omega }, below_new (below_new (Below.refl _ _) _) _⟩
set_option maxHeartbeats 8000000 in
set_option maxRecDepth 100000 in
theorem attach_nil (x1 x2 : Int) (d : Value) (w : World) :
    Calls Try.prog 31 #[.pointer none, .agg #[.int .u32 x1, .int .u32 x2], d] w fun e w' => e = .returned (.int .i64 1) ∧ Below w.heap.size w w' := by
  go_enter Try.func31, Try.ntmps31
  go_wp2_with fail
  go_ret
  exact ⟨rfl, below_new (Below.refl _ _) _⟩
set_option maxHeartbeats 8000000 in
set_option maxRecDepth 100000 in
theorem attach_none (b : Nat) (x1 x2 : Int) (w : World) :
    Calls Try.prog 31 #[.pointer (some ⟨b, 0, none⟩), .agg #[.int .u32 x1, .int .u32 x2], .nilIface] w fun e w' => e = .returned (.int .i64 1) ∧ Below w.heap.size w w' := by
  go_enter Try.func31, Try.ntmps31
  go_wp2_with fail
  go_ret
  exact ⟨rfl, below_new (Below.refl _ _) _⟩
set_option maxHeartbeats 8000000 in
set_option maxRecDepth 100000 in
theorem attach_11 (b : Nat) (x1 x2 : Int) (t : TypeId) (dv : Value) (w : World) (hr : R32 (x1, x2)) (h : Hid (¬ x1 % 4 = 0 ∨ ¬ x2 % 4 = 0)) :
    Calls Try.prog 31 #[.pointer (some ⟨b, 0, none⟩), .agg #[.int .u32 x1, .int .u32 x2], .iface t dv] w fun e w' => e = .returned (.int .i64 11) ∧ Below w.heap.size w w' := by
  have r1 := hr.a0
  have r2 := hr.a1
  have r3 := hr.b0
  have r4 := hr.b1
  dsimp only at r1 r2 r3 r4
  by_cases h1 : x1 % 4 = 0
  · have h2 : ¬ x2 % 4 = 0 := fun q => by rcases h.out with h | h; exact h h1; exact h q
    have d1 := dec_t h1
    have d2 := dec_f h2
    go_enter Try.func31, Try.ntmps31
    go_wp2_with fail
    go_ret
    exact ⟨rfl, below_new (Below.refl _ _) _⟩
  · have d1 := dec_f h1
    go_enter Try.func31, Try.ntmps31
    go_wp2_with fail
    go_ret
    exact ⟨rfl, below_new (Below.refl _ _) _⟩
set_option maxHeartbeats 8000000 in
set_option maxRecDepth 100000 in
theorem attach_5 (b : Nat) (x1 x2 : Int) (t : TypeId) (dv : Value) (w : World) (hr : R32 (x1, x2)) (h1 : x1 % 4 = 0) (h2 : x2 % 4 = 0) (h : Hid (x2 = 0 ∨ 4294967296 < x1 + x2)) :
    Calls Try.prog 31 #[.pointer (some ⟨b, 0, none⟩), .agg #[.int .u32 x1, .int .u32 x2], .iface t dv] w fun e w' => e = .returned (.int .i64 5) ∧ Below w.heap.size w w' := by
  have d1 := dec_t h1
  have d2 := dec_t h2
  have r1 := hr.a0
  have r2 := hr.a1
  have r3 := hr.b0
  have r4 := hr.b1
  dsimp only at r1 r2 r3 r4
  by_cases h3 : x2 = 0
  · subst h3
    go_enter Try.func31, Try.ntmps31
    go_wp2_with fail
    go_ret
    exact ⟨rfl, below_new (Below.refl _ _) _⟩
  · have h4 : 4294967296 < x1 + x2 := h.out.resolve_left h3
    have d3 : (x2 == 0) = false := by simpa using h3
    have e1 : IntKind.u64.wrap (x1 + x2) = x1 + x2 := by rw [IntKind.wrap_u64]; omega
    have e2 : IntKind.u64.wrap x1 = x1 := by rw [IntKind.wrap_u64]; omega
    have e3 : IntKind.u64.wrap x2 = x2 := by rw [IntKind.wrap_u64]; omega
    have d4 := dec_t h4
    go_enter Try.func31, Try.ntmps31
    go_wp2_with fail
    go_ret
    exact ⟨rfl, below_new (Below.refl _ _) _⟩
set_option maxHeartbeats 8000000 in
set_option maxRecDepth 100000 in
theorem attach_6 (b bm : Nat) (M : Rn) (c : Nat) (x1 x2 : Int) (t : TypeId) (dv : Value) (w : World) (hA : BuAt w b bm M c) (hr : R32 (x1, x2)) (h1 : x1 % 4 = 0) (h2 : x2 % 4 = 0) (h3 : ¬ x2 = 0) (h4 : ¬ 4294967296 < x1 + x2) (h : 64 ≤ M.length) :
    Calls Try.prog 31 #[.pointer (some ⟨b, 0, none⟩), .agg #[.int .u32 x1, .int .u32 x2], .iface t dv] w fun e w' => e = .returned (.int .i64 6) ∧ Below w.heap.size w w' := by
  have d1 := dec_t h1
  have d2 := dec_t h2
  have r1 := hr.a0
  have r2 := hr.a1
  have r3 := hr.b0
  have r4 := hr.b1
  dsimp only at r1 r2 r3 r4
  have d3 : (x2 == 0) = false := by simpa using h3
  have e1 : IntKind.u64.wrap (x1 + x2) = x1 + x2 := by rw [IntKind.wrap_u64]; omega
  have e2 : IntKind.u64.wrap x1 = x1 := by rw [IntKind.wrap_u64]; omega
  have e3 : IntKind.u64.wrap x2 = x2 := by rw [IntKind.wrap_u64]; omega
  have d4 := dec_f h4
  have d5 : decide ((64 : Int) ≤ (M.length : Int)) = true := dec_t (by omega)
  have hbl : b < w.heap.size := hA.row.lt
  have r0 : w.cell? ⟨b, 0, none⟩ = some (.map (some bm)) := hA.row.cell (i := 0) rfl
  have hq := run_len_at Try.underlying109 (hA.m.alloc (.cells #[.int .u32 x1, .int .u32 x2] 52)) 3
  clear hA
  go_enter Try.func31, Try.ntmps31
  go_wp2_with (first | simp only [hq] | fail)
  go_ret
  exact ⟨rfl, below_new (Below.refl _ _) _⟩
theorem Regs.cells {w w' : World} {d : Array (Int × Int)} {a : Option Addr} {n cap : Nat} (h : Regs w w' d (.slice a n cap)) (h0 : 0 < d.size) :
    ∃ g, a = some ⟨g, 0, none⟩ ∧ w.heap.size ≤ g ∧ g < w'.heap.size ∧ ∀ i, i < d.size → w'.cell? ⟨g, i * 2, none⟩ = some (.int .u32 (d[i]!).1) ∧ w'.cell? ⟨g, i * 2 + 1, none⟩ = some (.int .u32 (d[i]!).2) := by
  obtain ⟨a', cap', e, hg⟩ := h.v
  obtain ⟨g, e2, h1, h2, hH⟩ := hg h0
  injection e with e3 e4 e5
  subst e3
  refine ⟨g, e2, h1, h2, fun i hi => ?_⟩
  have c0 := HoldsK.cell hH hi (show 0 < 2 by decide)
  have c1 := HoldsK.cell hH hi (show 1 < 2 by decide)
  refine ⟨?_, ?_⟩
  · simpa [rc] using c0.1
  · simpa [rc] using c1.1
theorem mem_of_perm {d : Array (Int × Int)} {M : Rn} (h : d.toList.Perm (M.map (·.1))) {i : Nat} (hi : i < d.size) : ∃ p ∈ M, p.1 = d[i]! := by
  have h1 : d[i]! ∈ d.toList := by
    rw [getElem!_pos d i hi]
    exact Array.getElem_mem_toList hi
  have h2 := h.mem_iff.1 h1
  obtain ⟨p, hp, e⟩ := List.mem_map.1 h2
  exact ⟨p, hp, e⟩
theorem of_perm {d : Array (Int × Int)} {M : Rn} (h : d.toList.Perm (M.map (·.1))) {p : Ent (Int × Int)} (hp : p ∈ M) : ∃ i, i < d.size ∧ d[i]! = p.1 := by
  have h2 : p.1 ∈ d.toList := h.mem_iff.2 (List.mem_map.2 ⟨p, hp, rfl⟩)
  obtain ⟨i, hi, e⟩ := List.getElem_of_mem h2
  refine ⟨i, by simpa using hi, ?_⟩
  rw [getElem!_pos d i (by simpa using hi)]
  simpa using e
set_option maxHeartbeats 8000000 in
set_option maxRecDepth 100000 in
theorem attach_go (b bm : Nat) (M : Rn) (c : Nat) (x1 x2 : Int) (t : TypeId) (dv : Value) (w : World) (hA : BuAt w b bm M c) (hO : BuOk M) (hr : R32 (x1, x2)) (h1 : x1 % 4 = 0) (h2 : x2 % 4 = 0) (h3 : ¬ x2 = 0) (h4 : ¬ 4294967296 < x1 + x2) (h : M.length < 64) :
    Calls Try.prog 31 #[.pointer (some ⟨b, 0, none⟩), .agg #[.int .u32 x1, .int .u32 x2], .iface t dv] w fun e w' => (e = .returned (.int .i64 15) ∧ M.any (fun p => meetB p.1 (x1, x2)) = true ∧ Below w.heap.size w w') ∨ (e = .returned (.int .i64 0) ∧ M.any (fun p => meetB p.1 (x1, x2)) = false ∧ BuAt w' b bm (updL (x1, x2) (.iface t dv) c M) (updC (x1, x2) c M) ∧ Only (· = bm) w w') := by
  have d1 := dec_t h1
  have d2 := dec_t h2
  have r1 := hr.a0
  have r2 := hr.a1
  have r3 := hr.b0
  have r4 := hr.b1
  dsimp only at r1 r2 r3 r4
  have d3 : (x2 == 0) = false := by simpa using h3
  have e1 : IntKind.u64.wrap (x1 + x2) = x1 + x2 := by rw [IntKind.wrap_u64]; omega
  have e2 : IntKind.u64.wrap x1 = x1 := by rw [IntKind.wrap_u64]; omega
  have e3 : IntKind.u64.wrap x2 = x2 := by rw [IntKind.wrap_u64]; omega
  have d4 := dec_f h4
  have d5 : decide ((64 : Int) ≤ (M.length : Int)) = false := dec_f (by omega)
  have hbl : b < w.heap.size := hA.row.lt
  have r0 : w.cell? ⟨b, 0, none⟩ = some (.map (some bm)) := hA.row.cell (i := 0) rfl
  have hq := run_len_at Try.underlying109 (hA.m.alloc (.cells #[.int .u32 x1, .int .u32 x2] 52)) 3
  have HA := Lib.hid hA
  have HO := Lib.hid hO
  have HR := Lib.hid hr
  have HN := Lib.hid h
  clear hA hO hr h
  go_enter Try.func31, Try.ntmps31
  go_upto_region 9 with (first | simp only [hq] | fail)
  refine wp_name (Pr := fun W => BuAt W b bm M c ∧ RowAt W w.heap.size #[.int .u32 x1, .int .u32 x2] 52 ∧ Below w.heap.size w W) ⟨HA.out.ext (below_new (Below.refl _ _) _), RowAt.new w _ _, below_new (Below.refl _ _) _⟩ ?_
  clear hq d1 d2 d3 d4 d5 e1 e2 e3 r0 HA hbl h1 h2 h3 h4 r1 r2 r3 r4
  rintro W ⟨hA, hX, hB⟩
  have HA := Lib.hid hA
  have HX := Lib.hid hX
  have HB := Lib.hid hB
  clear hA hX hB
  go_upto_region 10 with (go_at_call 32; refine (regs_any b bm M c _ HA.out (Lib.hid (by have := HN.out; omega))).mono ?_; rintro e w1 ⟨d, hperm, _, ⟨v, rfl, hR⟩, hb1⟩; obtain ⟨sa, cap, rfl, _⟩ := id hR.v)
  have HP := Lib.hid hperm
  have HR1 := Lib.hid hR
  have HB1 := Lib.hid hb1
  clear hperm hR hb1
  go_loopw [51] (fun v wr => ∃ i : Nat, i ≤ d.size ∧ v = .int .i64 i ∧ (∀ j, j < i → meetB d[j]! (x1, x2) = false) ∧ Below w1.heap.size w1 wr) (fun v _ => d.size - (intOf v).toNat)
  case atStart => exact ⟨0, by omega, rfl, fun j hj => by omega, Below.refl _ _⟩
  case round =>
    obtain ⟨i, hi, rfl, hj, hBr⟩ := hrel
    have HJ := Lib.hid hj
    have HBR := Lib.hid hBr
    clear hj hBr
    have HW := Lib.hid (below_then (below_then HB.out HB1.out) HBR.out)
    have HXR := Lib.hid (RowAt.ext HX.out (below_then HB1.out HBR.out))
    have x0 : wr.cell? ⟨w.heap.size, 0, none⟩ = some (.int .u32 x1) := HXR.out.cell (i := 0) rfl
    have xx : wr.cell? ⟨w.heap.size, 1, none⟩ = some (.int .u32 x2) := HXR.out.cell (i := 1) rfl
    have hgx : w.heap.size < wr.heap.size := HXR.out.lt
    by_cases hlt : i < d.size
    · obtain ⟨g, ha, hg0, hg1, hC⟩ := HR1.out.cells (by omega)
      subst ha
      obtain ⟨⟨y1, y2⟩, hy⟩ : ∃ p, d[i]! = p := ⟨_, rfl⟩
      have HC := hC i hlt
      rw [hy] at HC
      have c0 : wr.cell? ⟨g, i * 2, none⟩ = some (.int .u32 y1) := (HBR.out.cell hg1).trans HC.1
      have c1 : wr.cell? ⟨g, i * 2 + 1, none⟩ = some (.int .u32 y2) := (HBR.out.cell hg1).trans HC.2
      have hgr : g < wr.heap.size := Nat.lt_of_lt_of_le hg1 HBR.out.size
      obtain ⟨p, hp, hpe⟩ := mem_of_perm HP.out hlt
      rw [hy] at hpe
      have HY := Lib.hid (show R32 (y1, y2) from hpe ▸ HO.out.rg p hp)
      have HMP := Lib.hid (And.intro hp hpe)
      have HYE := Lib.hid hy
      have t0 : decide ((i : Int) < (d.size : Int)) = true := dec_t (by omega)
      clear hC HC hp hpe hy hg0 hg1
      by_cases hm : meetB (y1, y2) (x1, x2) = true
      · go_wp2_with (go_at_call 26; refine (meet_any y1 y2 x1 x2 HY.out HR.out _).mono ?_; rintro e w2 ⟨rfl, hb1⟩; rw [hm])
        go_ret
        refine Or.inl ⟨rfl, List.any_eq_true.2 ⟨p, HMP.out.1, by rw [HMP.out.2]; exact hm⟩, ?_⟩
        repeat (first | exact HW.out | refine below_then ?_ hb1 | refine below_new ?_ _ | refine below_set ?_ (by simp) _)
      · have hm' : meetB (y1, y2) (x1, x2) = false := by simpa using hm
        have hsz : d.size = M.length := by simpa using HP.out.length_eq
        have w64 : wrap64 ((i : Int) + 1) = (i : Int) + 1 := by have := HN.out; unfold wrap64; omega
        clear hm hsz
        go_wp2_with (go_at_call 26; refine (meet_any y1 y2 x1 x2 HY.out HR.out _).mono ?_; rintro e w2 ⟨rfl, hb1⟩; rw [hm'])
        go_roundw
        case measure => rw [w64]; simp only [intOf]; omega
        case rel =>
          refine ⟨i + 1, by omega, by rw [w64]; rfl, fun j hj => ?_, ?_⟩
          · rcases Nat.lt_or_ge j i with q | q
            · exact HJ.out j q
            · obtain rfl : j = i := by omega
              rw [HYE.out]; exact hm'
          · have HBR' := HBR.out
            repeat (first | exact HBR' | refine below_then ?_ hb1 | refine below_new ?_ _ | refine below_set ?_ (by simp) _)
    · obtain rfl : i = d.size := by omega
      have t0 : decide ((d.size : Int) < (d.size : Int)) = false := dec_f (by omega)
      have hany : M.any (fun p => meetB p.1 (x1, x2)) = false := by
        rw [List.any_eq_false]
        intro p hp
        obtain ⟨j, hj, e⟩ := of_perm HP.out hp
        have := HJ.out j hj
        rw [e] at this
        rw [this]; decide
      have HAR := Lib.hid (HA.out.ext (below_then HB1.out HBR.out))
      go_upto_region 15 with fail
      refine wp_name (Pr := fun W2 => BuAt W2 b bm M c ∧ RowAt W2 w.heap.size #[.int .u32 x1, .int .u32 x2] 52 ∧ Below w.heap.size w W2) ⟨HAR.out, HXR.out, HW.out⟩ ?_
      clear x0 xx hgx hlt t0 HAR HXR HW HBR HJ HB1 HR1 HP HX HB HA
      rintro W2 ⟨hA, hX, hB⟩
      have HA := Lib.hid hA
      have HB := Lib.hid hB
      obtain ⟨hkR, _⟩ := Ext.cells hA.row
      obtain ⟨hkX, _⟩ := Ext.cells hX
      have s0 : ∀ y : Ext W2.heap.size W2, y.world.cell? ⟨b, 0, none⟩ = some (.map (some bm)) := fun y => hkR y 0
      have se0 : ∀ y : Ext W2.heap.size W2, y.world.cell? ⟨w.heap.size, 0, none⟩ = some (.int .u32 x1) := fun y => hkX y 0
      have se1 : ∀ y : Ext W2.heap.size W2, y.world.cell? ⟨w.heap.size, 1, none⟩ = some (.int .u32 x2) := fun y => hkX y 1
      clear hA hX hB hkR hkX
      refine wp_start (w := W2) ?_
      intro x0
      refine wp_region_ext_tail _ 6 (by kernel_rfl) (by kernel_rfl) (by kernel_rfl) ?_
      simp only [List.take_succ_cons, List.take_zero, List.drop_succ_cons, List.drop_zero]
      repeat (go_big_quiet_step (fail))
      refine wpQuiet_nil ?_
      rintro _ ⟨y, rfl⟩
      have HAY := Lib.hid (HA.out.ext y.ok)
      go_wp2_with (at_mapUpdate; refine wpList_update_at rfl (.tmp 62) (.tmp 63) (.tmp 64) rfl keyEnc_rk Try.underlying109 HAY.out.m rfl (x1, x2) rfl (.iface t dv) rfl ?_)
      go_ret
      exact Or.inr ⟨rfl, hany, { row := HAY.out.row.setB _ HAY.out.ne, m := HAY.out.m.set _ _, ok := HAY.out.ok.upd _ _, ne := HAY.out.ne }, (only_of (below_then HB.out y.ok) (· = bm)).setB rfl _⟩
end Go.Proofs.Ytgkklgebgabncaa
