/- A bus in memory: Find in all cases; Load. -/
import Derived.Test.YtgkklgebgabncaaBuE
import Derived.Test.YtgkklgebgabncaaInv
import Derived.BigQuiet
namespace Go.Proofs.Ytgkklgebgabncaa
open Go.RowKit
set_option linter.unusedVariables false
set_option linter.unusedSimpArgs false
open Go.Lib Go.Sort
set_option maxHeartbeats 8000000 in
set_option maxRecDepth 100000 in
theorem find_gen (v : Value) (M : Rn) (x : Int) (w : World) (hR : RegsOf v M w) (hO : BuOk M) (x0 : 0 ≤ x) (x1 : x ≤ 4294967295) :
    Calls Try.prog 33 #[v, .int .u32 x] w fun e w' => ∃ p1 p2 off code, e = .returned (.tuple #[.agg #[.int .u32 p1, .int .u32 p2], .int .u32 off, .int .i64 code]) ∧ FindsB M x (p1, p2) off code ∧ Below w.heap.size w w' := by
  by_cases h : x % 4 = 0
  · exact find_core v M x w hR hO x0 x1 h
  · refine (find_11 v x w x0 x1 h).mono ?_
    rintro e w' ⟨rfl, hb⟩
    exact ⟨_, _, _, _, rfl, Or.inl ⟨h, rfl, rfl, rfl⟩, hb⟩
/-- What the device of a region answers. -/
def devV (f : Nat) : Value := .iface 23 (.pointer (some ⟨f, 0, none⟩))
theorem inv_load (f : Nat) (x : Int) (w : World) : (callMethod (devV f) "Load" #[.int .u32 x]).run Try.prog w = .ok (.enter 14 #[.pointer (some ⟨f, 0, none⟩), .int .u32 x]) w := by kernel_rfl
theorem inv_store (f : Nat) (x v : Int) (w : World) : (callMethod (devV f) "Store" #[.int .u32 x, .int .u32 v]).run Try.prog w = .ok (.enter 16 #[.pointer (some ⟨f, 0, none⟩), .int .u32 x, .int .u32 v]) w := by kernel_rfl
theorem FindsB.in' {M : Rn} (hO : BuOk M) {x : Int} (x0 : 0 ≤ x) (x1 : x ≤ 4294967295) {p : Int × Int} {off : Int} (h : FindsB M x p off 0) : R32 p ∧ 0 ≤ off ∧ off ≤ 4294967295 := by
  rcases h with ⟨_, _, _, h⟩ | ⟨_, _, _, _, h⟩ | ⟨_, ⟨q, hq, rfl⟩, hh, rfl, _⟩
  · cases h
  · cases h
  · have hr := hO.rg q hq
    obtain ⟨⟨a, b⟩, qv⟩ := q
    have h2 := has_in hr x0 x1 hh
    have h3 := hr.a0
    dsimp only at *
    exact ⟨hr, by omega, by omega⟩
set_option maxHeartbeats 8000000 in
set_option maxRecDepth 100000 in
theorem bload_no (v : Value) (M : Rn) (x : Int) (w : World) (hR : RegsOf v M w) (hO : BuOk M) (x0 : 0 ≤ x) (x1 : x ≤ 4294967295) (hN : Hid (¬ (x % 4 = 0 ∧ ∃ q ∈ M, hasB q.1 x = true))) :
    Calls Try.prog 34 #[v, .int .u32 x] w fun e w' => e = .returned (.tuple #[.int .u32 0, .int .i64 (if x % 4 = 0 then 10 else 11)]) ∧ Below w.heap.size w w' := by
  have HR := Lib.hid hR
  clear hR
  generalize hE : (if x % 4 = 0 then (10 : Int) else 11) = E
  have E0 : (E == 0) = false := by rw [← hE]; split <;> rfl
  go_enter Try.func34, Try.ntmps34
  go_upto_region 2 with (go_at_call 33; refine (find_gen v M x _ HR.out hO x0 x1).mono ?_; rintro e w1 ⟨p1, p2, off, code, rfl, hF, hb1⟩)
  obtain rfl : code = E := by
    rcases hF with ⟨h, _, _, rfl⟩ | ⟨h, _, _, _, rfl⟩ | ⟨h, hq, hh, _⟩
    · rw [← hE, if_neg h]
    · rw [← hE, if_pos h]
    · obtain ⟨q, hq, e⟩ := hq
      exact absurd ⟨h, q, hq, by rw [e]; exact hh⟩ hN.out
  clear hF hE
  go_wp2_with fail
  refine bodyPost_ret (v := .tuple #[.int .u32 0, .int .i64 code]) (by simp [results, Try.results34, go_sem]) rfl ⟨rfl, ?_⟩
  repeat (first | exact hb1 | exact Ext.ok _ | refine below_new ?_ _ | refine below_set ?_ (by simp) _)
theorem findV_zero {l : Fm} {off : Int} (h : ¬ findE l off = 0) : (findV l off).v = 0 := by
  unfold findE at h
  unfold findV
  by_cases h4 : off % 4 = 0
  · cases hl : l off with
    | none => simp [h4]
    | some x => simp [h4, hl] at h
  · simp [h4]
theorem findE_cases (l : Fm) (off : Int) : findE l off = 11 ∨ findE l off = 10 ∨ findE l off = 0 := by
  unfold findE
  by_cases h4 : off % 4 = 0
  · cases hl : l off <;> simp [h4]
  · simp [h4]
/-- A region that an address belongs to, and its device. -/
structure HasAt (M : Rn) (x : Int) (p : Int × Int) (f : Nat) : Prop where
  al : x % 4 = 0
  val : valL p M = some (devV f)
  has : hasB p x = true
  one : ∀ q ∈ M, hasB q.1 x = true → q.1 = p
theorem HasAt.mem {M : Rn} {x : Int} {p : Int × Int} {f : Nat} (h : HasAt M x p f) : ∃ q ∈ M, q.1 = p := by
  by_cases h2 : ∃ q ∈ M, q.1 = p
  · exact h2
  · have : valL p M = none := valL_none.2 fun q hq e => h2 ⟨q, hq, e⟩
    rw [h.val] at this
    cases this
theorem HasAt.finds {M : Rn} {x : Int} {p r : Int × Int} {f : Nat} {off code : Int} (h : HasAt M x p f) (hF : FindsB M x r off code) : r = p ∧ off = x - p.1 ∧ code = 0 := by
  rcases hF with ⟨q, _⟩ | ⟨_, q, _⟩ | ⟨_, ⟨q, hq, rfl⟩, hh, rfl, rfl⟩
  · exact absurd h.al q
  · obtain ⟨u, hu, e⟩ := h.mem
    have h2 := q u hu
    rw [e, h.has] at h2
    cases h2
  · have := h.one q hq hh
    exact ⟨this, by rw [this], rfl⟩
set_option maxHeartbeats 8000000 in
set_option maxRecDepth 100000 in
theorem bload_fi (b bm : Nat) (M : Rn) (c : Nat) (x p1 p2 : Int) (f fm : Nat) (l : Fm) (w : World) (hA : BuAt w b bm M c) (hO : BuOk M) (x0 : 0 ≤ x) (x1 : x ≤ 4294967295) (hH : HasAt M x (p1, p2) f) (hF : FiAt w f fm l) :
    Calls Try.prog 34 #[.pointer (some ⟨b, 0, none⟩), .int .u32 x] w fun e w' => e = .returned (.tuple #[.int .u32 (findV l (x - p1)).v, .int .i64 (findE l (x - p1))]) ∧ Below w.heap.size w w' := by
  have hin : R32 (p1, p2) := by
    obtain ⟨q, hq, e⟩ := hH.mem
    rw [← e]
    exact hO.rg q hq
  have ho := has_in hin x0 x1 hH.has
  have o0 : 0 ≤ x - p1 := ho.2
  have o1 : x - p1 ≤ 4294967295 := by have := hin.a0; dsimp only at *; omega
  have hz := @findV_zero l (x - p1)
  have hz2 := findE_cases l (x - p1)
  have HR := Lib.hid (regsOf_live hA hO)
  have HA := Lib.hid hA
  have HF := Lib.hid hF
  obtain ⟨E, hE⟩ : ∃ E, findE l (x - p1) = E := ⟨_, rfl⟩
  obtain ⟨V, hV⟩ : ∃ V, (findV l (x - p1)).v = V := ⟨_, rfl⟩
  have HL := Lib.hid (show ∀ w', FiAt w' f fm l → Calls Try.prog 14 #[.pointer (some ⟨f, 0, none⟩), .int .u32 (x - p1)] w' (fun e w'' => e = .returned (.tuple #[.int .u32 V, .int .i64 E]) ∧ Below w'.heap.size w' w'') from fun w' h => by rw [← hV, ← hE]; exact load_any f fm l (x - p1) w' h o0 o1)
  rw [hE, hV] at hz
  rw [hE] at hz2
  rw [hE, hV]
  clear hE hV hA hF ho hin o0 o1
  go_enter Try.func34, Try.ntmps34
  go_upto_region 2 with (go_at_call 33; refine (find_gen (.pointer (some ⟨b, 0, none⟩)) M x _ HR.out hO x0 x1).mono ?_; rintro e w1 ⟨r1, r2, off, code, rfl, hFd, hb1⟩)
  obtain ⟨hr, rfl, rfl⟩ := hH.finds hFd
  injection hr with hr1 hr2
  subst hr1 hr2
  refine wp_name (Pr := fun W => RowAt W w1.heap.size #[.int .u32 r1, .int .u32 r2] 52 ∧ BuAt W b bm M c ∧ FiAt W f fm l ∧ Below w.heap.size w W) ⟨RowAt.new w1 _ _, (HA.out.ext hb1).ext (below_new (Below.refl _ _) _), (HF.out.ext hb1).ext (below_new (Below.refl _ _) _), below_new hb1 _⟩ ?_
  clear HR HA HF hFd hb1
  rintro W ⟨hX, hA, hF, hB⟩
  have HV := Lib.hid (show (valL (r1, r2) M).getD .nilIface = devV f by rw [hH.val]; rfl)
  have HM := Lib.hid (map_at_ext hA.m)
  have HF := Lib.hid hF
  have HB := Lib.hid hB
  obtain ⟨hkR, _⟩ := Ext.cells hA.row
  obtain ⟨hkX, _⟩ := Ext.cells hX
  have s0 : ∀ y : Ext W.heap.size W, y.world.cell? ⟨b, 0, none⟩ = some (.map (some bm)) := fun y => hkR y 0
  have se0 : ∀ y : Ext W.heap.size W, y.world.cell? ⟨w1.heap.size, 0, none⟩ = some (.int .u32 r1) := fun y => hkX y 0
  have se1 : ∀ y : Ext W.heap.size W, y.world.cell? ⟨w1.heap.size, 1, none⟩ = some (.int .u32 r2) := fun y => hkX y 1
  clear hX hA hF hB hkR hkX
  go_upto_region 4 with fail
  refine wp_start (w := W) ?_
  intro x0
  refine wp_region_ext _ (by kernel_rfl) (by kernel_rfl) ?_
  repeat (first
    | (refine wpQuiet_lookup_at rfl (.tmp 24) (.tmp 25) rfl keyEnc_rk Try.underlying109 .nilIface (fun w => by kernel_rfl) (fun w' hw' => HM.out w' hw') rfl (r1, r2) rfl (devV f) HV.out ?_; simp only [Act.put, List.setIfInBounds_toArray, List.set_cons_succ, List.set_cons_zero])
    | (refine wpQuiet_invoke_at rfl (.tmp 26) "Load" #[.tmp 27] #[26] rfl (devV f) rfl #[.int .u32 (x - r1)] rfl (inv_load f (x - r1)) (.tuple #[.int .u32 V, .int .i64 E]) (by rintro w' ⟨y, rfl⟩; exact Ext.call (HL.out _ (HF.out.ext y.ok))) ?_; simp only [Act.put, List.setIfInBounds_toArray, List.set_cons_succ, List.set_cons_zero])
    | go_big_quiet_step (fail))
  refine wpQuiet_nil ?_
  rintro _ ⟨y, rfl⟩
  have HBY := Lib.hid (below_then HB.out y.ok)
  rcases hz2 with rfl | rfl | rfl
  · obtain rfl : V = 0 := hz (by decide)
    go_wp2_with fail
    refine bodyPost_ret (v := .tuple #[.int .u32 0, .int .i64 11]) (by simp [results, Try.results34, go_sem]) rfl ⟨rfl, ?_⟩
    repeat (first | exact HBY.out | exact Ext.ok _ | refine below_new ?_ _ | refine below_set ?_ (by simp) _)
  · obtain rfl : V = 0 := hz (by decide)
    go_wp2_with fail
    refine bodyPost_ret (v := .tuple #[.int .u32 0, .int .i64 10]) (by simp [results, Try.results34, go_sem]) rfl ⟨rfl, ?_⟩
    repeat (first | exact HBY.out | exact Ext.ok _ | refine below_new ?_ _ | refine below_set ?_ (by simp) _)
  · go_wp2_with fail
    refine bodyPost_ret (v := .tuple #[.int .u32 V, .int .i64 0]) (by simp [results, Try.results34, go_sem]) rfl ⟨rfl, ?_⟩
    repeat (first | exact HBY.out | exact Ext.ok _ | refine below_new ?_ _ | refine below_set ?_ (by simp) _)
end Go.Proofs.Ytgkklgebgabncaa
