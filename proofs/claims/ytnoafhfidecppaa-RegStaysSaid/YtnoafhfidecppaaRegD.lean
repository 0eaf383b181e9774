/- The walk of RegStays: bits that may neither be written nor cleared stay. -/
import Derived.Test.YtnoafhfidecppaaRegC
import Derived.Deep.RegionHeld3
import Derived.Lib.SmallJoins
namespace Go.Proofs.Ytnoafhfidecppaa
open Go.RowKit
set_option linter.unusedVariables false
set_option linter.unusedSimpArgs false

/-- In w' all that lay in w lies as it lay. -/
def InExt (w w' : World) : Prop := Below w.heap.size w w'
theorem InExt.cells {w : World} {b : Nat} {t : TypeId} {cs : Array Value} (h : w.heap[b]? = some (.cells cs t (0, 0))) :
    (∀ w', InExt w w' → ∀ i : Nat, w'.cell? ⟨b, i, none⟩ = cs[i]?) ∧ (∀ w', InExt w w' → ∀ i : Nat, w'.frozen? ⟨b, i, none⟩ = false) :=
  ⟨fun w' hw i => (Ext.cells h).1 ⟨w', hw⟩ i, fun w' hw i => (Ext.cells h).2 ⟨w', hw⟩ i⟩
theorem InExt.drew {w w' : World} (h : InExt w w') : InExt w w'.drew := Below.drew h
theorem InExt.refl (w : World) : InExt w w := Below.refl _ _
theorem InExt.step {w w1 w' : World} (h : InExt w w1) (hb : Below w1.heap.size w1 w') : InExt w w' := below_then h hb
theorem InExt.block {w w1 : World} (h : InExt w w1) {b : Nat} {o : Obj} (hb : w.heap[b]? = some o) : w1.heap[b]? = some o := block_below hb h
theorem set_block {w : World} {g i : Nat} {cs : Array Value} {t : TypeId} (h : w.heap[g]? = some (.cells cs t (0, 0))) (v : Value) : (w.setCell ⟨g, i, none⟩ v).heap[g]? = some (.cells (cs.setIfInBounds i v) t (0, 0)) :=
  Joins.block_setCell h v
theorem set_other {w : World} {g : Nat} {o : Obj} (h : w.heap[g]? = some o) {p : Addr} (hp : g ≠ p.block) (v : Value) : (w.setCell p v).heap[g]? = some o := (Below.heap_setCell w p v g hp).trans h

def stays (a x c X : Int) : Prop := bits .andNot .u32 (bits .xor .u32 X a) (bits .or .u32 x c) = 0
theorem stays_iff {a x c X : Int} (ha0 : 0 ≤ a) (ha1 : a ≤ 4294967295) (hx0 : 0 ≤ x) (hx1 : x ≤ 4294967295) (hc0 : 0 ≤ c) (hc1 : c ≤ 4294967295) (h0 : 0 ≤ X) (h1 : X ≤ 4294967295) :
    stays a x c X ↔ ∀ i, i < 32 → bitI x i = false → bitI c i = false → bitI X i = bitI a i := by
  obtain ⟨p0, p1, p2⟩ := xor_u32 X a h0 h1 ha0 ha1
  obtain ⟨q0, q1, q2⟩ := or_u32 x c hx0 hx1 hc0 hc1
  obtain ⟨s0, s1, s2⟩ := andNot_u32 _ _ p0 p1 q0 q1
  constructor
  · intro h i hi e1 e2
    have := s2 i hi
    rw [show bits .andNot .u32 (bits .xor .u32 X a) (bits .or .u32 x c) = 0 from h, zero_bits, p2 i hi, q2 i hi, e1, e2] at this
    revert this
    cases bitI X i <;> cases bitI a i <;> simp
  · intro h
    refine bits_ext s0 s1 (by omega) (by omega) fun i hi => ?_
    rw [s2 i hi, zero_bits, p2 i hi, q2 i hi]
    have := h i hi
    revert this
    cases bitI x i <;> cases bitI c i <;> cases bitI X i <;> cases bitI a i <;> simp
theorem stays_step {a x c X v : Int} (ha0 : 0 ≤ a) (ha1 : a ≤ 4294967295) (hx0 : 0 ≤ x) (hx1 : x ≤ 4294967295) (hc0 : 0 ≤ c) (hc1 : c ≤ 4294967295) (h0 : 0 ≤ X) (h1 : X ≤ 4294967295) (hv0 : 0 ≤ v) (hv1 : v ≤ 4294967295)
    (h : stays a x c X) : stays a x c (storeI X x c v) := by
  obtain ⟨p0, p1, p2⟩ := storeI_bits X x c v h0 h1 hx0 hx1 hc0 hc1 hv0 hv1
  rw [stays_iff ha0 ha1 hx0 hx1 hc0 hc1 p0 p1]
  intro i hi e1 e2
  rw [p2 i hi, storeF, e1, e2]
  simpa using (stays_iff ha0 ha1 hx0 hx1 hc0 hc1 h0 h1).1 h i hi e1 e2
theorem store_twice (X x c v : Int) (hx0 : 0 ≤ x) (hx1 : x ≤ 4294967295) (hc0 : 0 ≤ c) (hc1 : c ≤ 4294967295) (h0 : 0 ≤ X) (h1 : X ≤ 4294967295) (hv0 : 0 ≤ v) (hv1 : v ≤ 4294967295) :
    storeI (storeI X x c v) x c v = storeI X x c v := by
  obtain ⟨p0, p1, p2⟩ := storeI_bits X x c v h0 h1 hx0 hx1 hc0 hc1 hv0 hv1
  obtain ⟨q0, q1, q2⟩ := storeI_bits (storeI X x c v) x c v p0 p1 hx0 hx1 hc0 hc1 hv0 hv1
  refine bits_ext q0 q1 p0 p1 fun i hi => ?_
  rw [q2 i hi, storeF, p2 i hi, storeF]
  cases bitI X i <;> cases bitI x i <;> cases bitI c i <;> cases bitI v i <;> rfl
theorem stays_refl {a x c : Int} (ha0 : 0 ≤ a) (ha1 : a ≤ 4294967295) (hx0 : 0 ≤ x) (hx1 : x ≤ 4294967295) (hc0 : 0 ≤ c) (hc1 : c ≤ 4294967295) : stays a x c a :=
  (stays_iff ha0 ha1 hx0 hx1 hc0 hc1 ha0 ha1).2 fun _ _ _ _ => rfl
/-- A row of four that is stored anew. -/
theorem wp_set4 {P : Program} {c : Code} {Q : Exit → Act → World → Prop} {a : Act} {w1 : World} {g : Nat} {t : TypeId} {o0 o1 o2 o3 v0 v1 v2 v3 : Value} (hb : w1.heap[g]? = some (.cells #[o0, o1, o2, o3] t (0, 0)))
    (h : ∀ W2 : World, W2.heap[g]? = some (.cells #[v0, v1, v2, v3] t (0, 0)) → (∀ b o, b ≠ g → w1.heap[b]? = some o → W2.heap[b]? = some o) → (∀ B, B ≤ g → Below B w1 W2) → c.wp P Q a W2) :
    c.wp P Q a ((((w1.setCell ⟨g, 0, none⟩ v0).setCell ⟨g, 1, none⟩ v1).setCell ⟨g, 2, none⟩ v2).setCell ⟨g, 3, none⟩ v3) := by
  refine h _ ?_ ?_ ?_
  · have := set_block (i := 3) (set_block (i := 2) (set_block (i := 1) (set_block (i := 0) hb v0) v1) v2) v3
    simpa using this
  · intro b o hne ho
    exact set_other (set_other (set_other (set_other ho (p := ⟨g, 0, none⟩) hne v0) (p := ⟨g, 1, none⟩) hne v1) (p := ⟨g, 2, none⟩) hne v2) (p := ⟨g, 3, none⟩) hne v3
  · intro B hB
    exact ((((Below.refl _ _).setCell hB _).setCell hB _).setCell hB _).setCell hB _
def reg4 (a r x c : Int) : Array Value := #[.int .u32 a, .int .u32 r, .int .u32 x, .int .u32 c]
set_option maxHeartbeats 8000000 in
set_option maxRecDepth 100000 in
theorem RegStays_walk (a r x c : Int) (A : Option Addr) (n cap : Nat) (zs : List Int) (w : World)
    (ha0 : 0 ≤ a) (ha1 : a ≤ 4294967295) (hr0 : 0 ≤ r) (hr1 : r ≤ 4294967295) (hx0 : 0 ≤ x) (hx1 : x ≤ 4294967295) (hc0 : 0 ≤ c) (hc1 : c ≤ 4294967295)
    (hn : n ≤ 9223372036854775807) (hz : 0 < n → ∃ p, A = some p ∧ p.block < w.heap.size ∧ ∀ k, k < n → w.cell? (p.add k) = some (.int .u32 (zs.getD k 0))) (hzb : ∀ k, 0 ≤ zs.getD k 0 ∧ zs.getD k 0 ≤ 4294967295) :
    Calls Try.prog 6 #[.agg #[.int .u32 a, .int .u32 r, .int .u32 x, .int .u32 c], .slice A n cap] w fun e w' => e = .returned (.bool true) ∧ Below w.heap.size w w' := by
  go_enter Try.func6, Try.ntmps6
  go_wp2_with fail
  refine wp_box2 ?_
  intro W hB hb1 hb2 hlt2
  go_loopg [6] 20 (fun g i wr => ∃ (k : Nat) (X : Int), k ≤ n ∧ k + g = 20 ∧ i = .int .i64 k ∧ 0 ≤ X ∧ X ≤ 4294967295 ∧ Hid (stays a x c X) ∧ Below w.heap.size w wr ∧ Hid (wr.heap[w.heap.size]? = some (.cells (reg4 a r x c) 41 (0, 0))) ∧ Hid (wr.heap[w.heap.size + 1]? = some (.cells (reg4 X r x c) 41 (0, 0))))
  case atStart => exact ⟨0, a, by omega, by omega, rfl, ha0, ha1, stays_refl ha0 ha1 hx0 hx1 hc0 hc1, hB, hb1, hb2⟩
  case round =>
    clear hb1 hb2 hB hlt2
    obtain ⟨k, X, hk, hkg, rfl, hX0, hX1, HS, hB, Hb1, Hb2⟩ := hrel
    obtain ⟨h1, f1⟩ := InExt.cells Hb1.out
    obtain ⟨h2, f2⟩ := InExt.cells Hb2.out
    unfold reg4 at h1 h2
    have hI0 := InExt.refl wr
    by_cases hkn : k < n
    · have d1 : decide (k < n) = true := by simpa using hkn
      by_cases hk20 : k < 20
      · cases gk with
        | zero => omega
        | succ g =>
        obtain ⟨p, rfl, hpb, hz'⟩ := hz (by omega)
        obtain ⟨v0, v1⟩ := hzb k
        have hzk : ∀ w', InExt wr w' → w'.cell? (p.add k) = some (.int .u32 (zs.getD k 0)) := fun w' hw => by
          have hw' : Below w.heap.size w w' := hB.trans (hw.mono hB.size)
          have hpb' : (p.add k).block < w.heap.size := by unfold Addr.add; split <;> exact hpb
          exact (hw'.cell hpb').trans (hz' k hkn)
        generalize zs.getD k 0 = v at *
        go_wp2_with fail
        have h2' := fun i => h2 wr hI0 i
        have hz2 := hzk wr hI0
        go_region_with (go_at_call 18; refine (store_any _ _ _ _ _ _).mono ?_; rintro e w1 ⟨rfl, hb1⟩; have hI1 : InExt wr w1 := below_then (Below.refl _ _).drew hb1; clear hb1)
        all_goals
          go_wp2_with fail
          refine wp_set4 (InExt.block hI1 Hb2.out) ?_
          intro W2 g2 goth gB
          have g1 := goth w.heap.size _ (by omega) (InExt.block hI1 Hb1.out)
          have hB2 : Below w.heap.size w W2 := (hB.trans (hI1.mono hB.size)).trans (gB _ (by omega))
          obtain ⟨s0, s1, _⟩ := storeI_bits X x c v hX0 hX1 hx0 hx1 hc0 hc1 v0 v1
          have HS2 := Lib.hid (stays_step ha0 ha1 hx0 hx1 hc0 hc1 hX0 hX1 v0 v1 HS.out)
          have q1 : bits .andNot .u32 (bits .xor .u32 (storeI X x c v) a) (bits .or .u32 x c) = 0 := HS2.out
          have q2 := store_twice X x c v hx0 hx1 hc0 hc1 hX0 hX1 v0 v1
          have hz3 : ∀ y : Ext W2.heap.size W2, y.world.cell? (p.add k) = some (.int .u32 v) := fun y => by
            have hpb' : (p.add k).block < w.heap.size := by unfold Addr.add; split <;> exact hpb
            have e1 := (hB2.cell hpb').trans ((hB.cell hpb').symm.trans hz2)
            exact y.cell e1
          have G1 := Lib.hid g1
          have G2 := Lib.hid g2
          have HB2 := Lib.hid hB2
          clear h1 f1 h2 f2 h2' hz2 hI1 hI0 hB HS hX0 hX1 Hb1 Hb2 goth gB hB2 hz hzk hz'
          obtain ⟨h1, f1⟩ := Ext.cells g1
          obtain ⟨h2, f2⟩ := Ext.cells g2
          unfold reg4 at h1
          clear g1 g2
          refine wp_start ?_
          intro y
          refine wp_region_ext _ (by kernel_rfl) (by kernel_rfl) ?_
          repeat (go_big_quiet_step ((go_at_call 18; refine Ext.call (store_any _ _ _ _ _ _))))
          refine wpQuiet_nil ?_
          rintro _ ⟨z, rfl⟩
          go_wp2_with fail
          go_roundg g
          case measure => omega
          case rel => exact ⟨k + 1, storeI X x c v, by omega, by omega, by go_num, s0, s1, HS2, HB2.out.trans (z.ok.mono HB2.out.size), z.block G1.out, z.block G2.out⟩
      · have d2 : decide (k < 20) = false := by simpa using hk20
        clear h1 f1 h2 f2
        obtain ⟨h1, f1⟩ := Ext.cells Hb1.out
        obtain ⟨h2, f2⟩ := Ext.cells Hb2.out
        unfold reg4 at h1 h2
        go_wp2_with fail
        refine wp_start ?_
        intro y
        refine wp_region_ext _ (by kernel_rfl) (by kernel_rfl) ?_
        repeat (go_big_quiet_step (first | (go_at_call 19; refine Ext.call (known02 _)) | (go_at_call 20; refine Ext.call (again_any _ _ _ _ _))))
        refine wpQuiet_nil ?_
        rintro _ ⟨z, rfl⟩
        go_wp2_with fail
        go_ret
        exact ⟨rfl, hB.trans (z.ok.mono hB.size)⟩
    · have d1 : decide (k < n) = false := by simpa using hkn
      clear h1 f1 h2 f2
      obtain ⟨h1, f1⟩ := Ext.cells Hb1.out
      obtain ⟨h2, f2⟩ := Ext.cells Hb2.out
      unfold reg4 at h1 h2
      go_wp2_with fail
      refine wp_start ?_
      intro y
      refine wp_region_ext _ (by kernel_rfl) (by kernel_rfl) ?_
      repeat (go_big_quiet_step (first | (go_at_call 19; refine Ext.call (known02 _)) | (go_at_call 20; refine Ext.call (again_any _ _ _ _ _))))
      refine wpQuiet_nil ?_
      rintro _ ⟨z, rfl⟩
      go_wp2_with fail
      go_ret
      exact ⟨rfl, hB.trans (z.ok.mono hB.size)⟩
end Go.Proofs.Ytnoafhfidecppaa
