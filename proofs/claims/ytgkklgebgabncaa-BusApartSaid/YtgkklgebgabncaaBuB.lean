/- A bus in memory: New, Regions. -/
import Derived.Test.YtgkklgebgabncaaBuS
import Derived.Test.YtgkklgebgabncaaMapRange
import Derived.Test.YtgkklgebgabncaaMapQ
import Derived.Test.YtgkklgebgabncaaMapR
import Derived.Test.YtgkklgebgabncaaGrowB
import Derived.Test.YtgkklgebgabncaaRegE
import Derived.Deep.RegionHeld3
import Derived.Laws.StructEq
namespace Go.Proofs.Ytgkklgebgabncaa
open Go.RowKit
set_option linter.unusedVariables false
set_option linter.unusedSimpArgs false
open Go.Shelf Go.Lib Go.Sort
theorem rg_fields : ∃ f0 f1, Try.prog.fieldsOf 52 = #[f0, f1] ∧ ¬ f0.name = "_" ∧ ¬ f1.name = "_" ∧ f0.type = 26 ∧ f0.offset = 0 ∧ f1.type = 26 ∧ f1.offset = 1 ∧ Try.prog.underlying 52 = some (.struct #[f0, f1]) := by
  refine ⟨_, _, ?_, ?_, ?_, ?_, ?_, ?_, ?_, Try.underlying52⟩
  · unfold Program.fieldsOf; rw [Try.underlying52]
  · decide
  · decide
  all_goals rfl
theorem rk_run (a1 a2 b1 b2 : Int) (w : World) : (Op.equal 52 (rk (a1, a2)) (rk (b1, b2))).run Try.prog w = .ok ((a1 == b1) && (a2 == b2)) w := by
  obtain ⟨f0, f1, hf, n0, n1, t0, o0, t1, o1, hu⟩ := rg_fields
  show (Op.equal 52 (.agg #[.int .u32 a1, .int .u32 a2]) (.agg #[.int .u32 b1, .int .u32 b2])).run Try.prog w = _
  unfold Op.equal
  rw [show Op.maxDepth = 9999 + 1 from rfl, run_equalIn_agg w 9999 52 _ _ (by rw [hf]; exact hu) Try.stoodInHeld52, hf]
  have hp : ∀ (x y : Int) w, (part 26 #[.int .u32 x, .int .u32 y] 0).run Try.prog w = .ok (.int .u32 x) w := fun x y w => run_part_one w 26 .u32 Try.underlying26 _ 0 _ rfl
  have hp2 : ∀ (x y : Int) w, (part 26 #[.int .u32 x, .int .u32 y] 1).run Try.prog w = .ok (.int .u32 y) w := fun x y w => run_part_one w 26 .u32 Try.underlying26 _ 1 _ rfl
  simp [Op.eqFields, n0, n1, t0, o0, t1, o1, hp, hp2, Sem.run_bind, run_equalIn_int w 9998 26 .u32 .u32 a1 b1 Try.underlying26, run_equalIn_int w 9998 26 .u32 .u32 a2 b2 Try.underlying26]
  by_cases h1 : a1 = b1 <;> by_cases h2 : a2 = b2 <;> simp [h1, h2]
theorem rk_eq (a b : Int × Int) (w : World) : (Op.equal 52 (rk a) (rk b)).run Try.prog w = .ok (decide (a = b)) w := by
  obtain ⟨a1, a2⟩ := a
  obtain ⟨b1, b2⟩ := b
  rw [rk_run]
  congr 1
  by_cases h1 : a1 = b1
  · subst h1
    by_cases h2 : a2 = b2
    · subst h2; simp
    · simp [h2]
  · simp [h1]
theorem keyEnc_rk : KeyEnc Try.prog 52 rk :=
  keyEnc_ask Try.underlying52 (fun a b => rfl) rk_eq (fun e k w => by kernel_rfl) (fun k => by simp [rk, Instr.sameBits])
structure BuAt (w : World) (b bm : Nat) (M : List (Ent (Int × Int))) (c : Nat) : Prop where
  row : RowAt w b #[.map (some bm)] 111
  m : MapAt w bm rk M c
  ok : MapOk M c
  ne : b ≠ bm
theorem BuAt.ext {w w' : World} {b bm : Nat} {M : List (Ent (Int × Int))} {c : Nat} (h : BuAt w b bm M c) (hb : Below w.heap.size w w') : BuAt w' b bm M c := { h with row := RowAt.ext h.row hb, m := h.m.ext hb }
def lenV : Value → Nat
  | .slice _ n _ => n
  | _ => 0
set_option maxHeartbeats 8000000 in
set_option maxRecDepth 100000 in
theorem regs_nil (w : World) :
    Calls Try.prog 32 #[.pointer none] w fun e w' => e = .returned (.slice none 0 0) ∧ Below w.heap.size w w' := by
  go_enter Try.func32, Try.ntmps32
  go_wp2_with fail
  go_ret
  exact ⟨rfl, Below.refl _ _⟩
/-- What Regions hands back: the regions, in a row of its own. -/
structure Regs (w w' : World) (d : Array (Int × Int)) (v : Value) : Prop where
  v : ∃ a cap, v = .slice a d.size cap ∧ (0 < d.size → ∃ g, a = some ⟨g, 0, none⟩ ∧ w.heap.size ≤ g ∧ g < w'.heap.size ∧ HoldsK rc 2 w' g 0 d)
theorem flat_get (done : List (Ent (Int × Int))) (j : Nat) (hj : j < done.length * 2) : (done.flatMap fun p => rc p.1)[j]? = some (flatK rc 2 (done.map (·.1)).toArray)[j]! := by
  rw [get_flatK _ _ _ _ (by simpa using hj)]
  induction done generalizing j with
  | nil => simp at hj
  | cons p r ih =>
    rw [List.flatMap_cons]
    by_cases h : j < 2
    · rw [List.getElem?_append_left (by simpa [rc] using h)]
      have : j = 0 ∨ j = 1 := by omega
      rcases this with rfl | rfl <;> simp [rc]
    · rw [List.getElem?_append_right (by simp [rc]; omega)]
      have e1 : j / 2 = (j - 2) / 2 + 1 := by omega
      have e2 : j % 2 = (j - 2) % 2 := by omega
      have hl : (rc p.1).length = 2 := rfl
      rw [hl, ih (j - 2) (by simp at hj; omega), e1, e2]
      simp
theorem own_holds {w : World} {base : Nat} {a : Option Addr} {n cap : Nat} {done : List (Ent (Int × Int))} (h : w.ownsRow base 52 2 (.slice a n cap) done.length (done.flatMap fun p => rc p.1)) (h0 : 0 < done.length) :
    n = done.length ∧ ∃ g, a = some ⟨g, 0, none⟩ ∧ base ≤ g ∧ g < w.heap.size ∧ HoldsK rc 2 w g 0 (done.map (·.1)).toArray := by
  obtain ⟨h1, h2 | ⟨g, cap', cur, hv, hb, hg, hn, hm, hs, ht⟩⟩ := h
  · exact absurd h2.2 (by omega)
  · injection hv with e1 e2 e3
    subst e1 e2 e3
    refine ⟨rfl, g, rfl, hb, block_lt hg, fun j hj => ?_⟩
    rw [size_flatK] at hj
    have hj' : j < done.length * 2 := by simpa using hj
    refine ⟨?_, ?_⟩
    · rw [Nat.zero_add, cell_of_row w g j cur 52 (0, 0) hg, ← Array.getElem?_toList]
      have e1 : (cur.toList.take (done.length * 2))[j]? = cur.toList[j]? := by rw [List.getElem?_take, if_pos hj']
      rw [← e1, ht]
      exact flat_get done j hj'
    · exact RowAt.frozen (show RowAt w g cur 52 from hg) _
set_option maxHeartbeats 8000000 in
set_option maxRecDepth 100000 in
theorem regs_any (b bm : Nat) (M : List (Ent (Int × Int))) (c : Nat) (w : World) (hA : BuAt w b bm M c) (hM : Hid (M.length ≤ 1000000000)) :
    Calls Try.prog 32 #[.pointer (some ⟨b, 0, none⟩)] w fun e w' => ∃ d : Array (Int × Int), d.toList.Perm (M.map (·.1)) ∧ SortedIn (ltOf cfR) 0 d.size d ∧ (∃ v, e = .returned v ∧ Regs w w' d v) ∧ Below w.heap.size w w' := by
  have r0 : w.cell? ⟨b, 0, none⟩ = some (.map (some bm)) := hA.row.cell (i := 0) rfl
  have HA := Lib.hid hA
  clear hA
  go_enter Try.func32, Try.ntmps32
  go_wp2_with (at_range; refine wpList_range_at rfl (.tmp 10) 109 52 113 rfl Try.underlying109 rfl HA.out.m ?_; intro w1 hit hb1; go_frame)
  have HI := Lib.hid hit
  have HB1 := Lib.hid hb1
  clear hit hb1
  go_loopw [3] (fun v wr => ∃ done : List (Ent (Int × Int)), wr.ownsRow (w.heap.size + 1) 52 2 v done.length (done.flatMap fun p => rc p.1) ∧ IterAt wr w.heap.size bm c M done ∧ Below w.heap.size w wr) (fun v _ => M.length - lenV v)
  case atStart => exact ⟨[], World.ownsRow_nil _ _ _ _, HI.out, HB1.out⟩
  case round =>
    obtain ⟨done, hown, hit, hB⟩ := hrel
    have HO := Lib.hid hown
    have HIT := Lib.hid hit
    have HB := Lib.hid hB
    clear hown hit hB
    go_wp2_with (at_next; refine wpList_next_at rfl (.tmp 11) rfl rfl (HA.out.ext HB.out).m HA.out.ok HIT.out ?_ ?_)
    · intro hperm
      have HP := Lib.hid hperm
      have hlen := hperm.length_eq
      clear hperm
      obtain ⟨a, cap, rfl⟩ := own_slice HO.out
      have HL := Lib.hid hlen
      clear hlen
      rcases Nat.eq_zero_or_pos done.length with h0 | h0
      · obtain rfl : done = [] := List.eq_nil_of_length_eq_zero h0
        have HS := Lib.hid (sort_none a cap (.func (.func 59) #[] #[]) wr)
        clear h0
        go_wp2_with (go_at_call 58; refine HS.out.mono ?_; rintro e w3 ⟨rfl, rfl⟩)
        go_ret
        exact ⟨#[], by simpa using HP.out.map (·.1), fun i j _ _ h => absurd h (Nat.not_lt_zero _), ⟨_, rfl, ⟨a, cap, rfl, fun h => absurd h (Nat.lt_irrefl _)⟩⟩, HB.out⟩
      · obtain ⟨_, g, rfl, hg0, hg1, hH⟩ := own_holds HO.out h0
        have hsz : (done.map (·.1)).toArray.size = done.length := by simp
        have hs := sort_any g cap (done.map (·.1)).toArray wr hH hg1 (by rw [hsz]; have := hM.out; have := HL.out; omega)
        rw [hsz] at hs
        have HS := Lib.hid hs
        have HG := Lib.hid (And.intro hg0 hg1)
        clear hs hH hsz hg0 hg1 h0
        go_wp2_with (go_at_call 58; refine HS.out.mono ?_; rintro e w3 ⟨rfl, d', hp, hsd, hH', hO3⟩)
        go_ret
        have hd : d'.size = done.length := by have := hp.length_eq; simpa using this
        refine ⟨d', ?_, hsd, ⟨.slice (some ⟨g, 0, none⟩) done.length cap, rfl, ⟨some ⟨g, 0, none⟩, cap, by rw [hd], fun _ => ⟨g, rfl, by have := HG.out.1; omega, Nat.lt_of_lt_of_le HG.out.2 hO3.size, hH'⟩⟩⟩, Only.below HB.out hO3 (fun k hk => by have := HG.out.1; omega) HB.out.size⟩
        exact hp.trans (by simpa using HP.out.map (·.1))
    · intro k1 k2 u st hin hnin w2 hit2 ho2 hen
      unfold rk at hen
      have hbase := ownsRow_base HO.out
      have hown2 := ownsRow_only HO.out ho2 (fun g hg => by have := (hbase g hg).1; omega)
      have hB2 := Only.below HB.out ho2 (fun k hk => by omega) HB.out.size
      have hlt : done.length < M.length := by
        have h1 : (done ++ [((k1, k2), u, st)]).length ≤ M.length := nodup_le (nodup_of_map hit2.nd) hit2.sub
        rw [List.length_append, List.length_singleton] at h1
        omega
      have HO2 := Lib.hid hown2
      have HB2 := Lib.hid hB2
      have HIT2 := Lib.hid hit2
      have HLT := Lib.hid hlt
      clear hown2 hB2 hit2 ho2 hin hnin hbase hlt
      have HZ := Lib.hid (show done.length ≤ 1000000000 by have := hM.out; have := HLT.out; omega)
      have HY := Lib.hid (show w.heap.size + 1 ≤ (w2.alloc (.cells #[Value.int IntKind.u32 k1, Value.int IntKind.u32 k2] 52)).heap.size by have := HB2.out.size; simp; omega)
      have HX := Lib.hid (HO2.out.alloc (.cells #[Value.int IntKind.u32 k1, Value.int IntKind.u32 k2] 52))
      go_wp2_with (at_builtin; refine wpList_grow1_at rfl (.tmp 16) (.tmp 18) 63 rfl (w.heap.size + 1) 52 2 8 Try.underlying63 (by kernel_rfl) (by decide) (by decide) _ _ _ rfl HX.out [.int .u32 k1, .int .u32 k2] rfl (by first | (go_simp; done) | (simp; done)) (by intro u hu; simp only [List.mem_cons, List.not_mem_nil, or_false] at hu; rcases hu with rfl | rfl <;> rfl) HZ.out HY.out _ ?_; intro v' w3 hown3 ho3 hat3)
      go_roundw
      case measure =>
        obtain ⟨a1, c1, e1⟩ := own_slice HO2.out
        obtain ⟨a2, c2, e2⟩ := own_slice hown3
        rw [e1, e2]
        have := HLT.out
        simp only [lenV]
        omega
      case rel =>
        refine ⟨done ++ [((k1, k2), u, st)], ?_, ?_, ?_⟩
        · rw [List.length_append, List.length_singleton, List.flatMap_append]
          simpa [rc] using hown3
        · exact (HIT2.out.ext (below_new (Below.refl _ _) _)).only ho3 (fun h => by have := (ownsRow_base HO2.out _ h.symm).1; omega)
        · exact Only.below (below_new HB2.out _) ho3 (fun k hk => by have := (ownsRow_base HO2.out _ hk.symm).1; omega) (by have := HB2.out.size; simp; omega)
end Go.Proofs.Ytgkklgebgabncaa
