/- A bus in memory: Attach's answer, Find. -/
import Derived.Test.YtgkklgebgabncaaBuD
import Derived.WalkMore
namespace Go.Proofs.Ytgkklgebgabncaa
open Go.RowKit
set_option linter.unusedVariables false
set_option linter.unusedSimpArgs false
open Go.Lib Go.Sort
def attM (M : Rn) (c : Nat) (r : Int × Int) (d : Value) : Rn := if attE M r = 0 then updL r d c M else M
theorem meet_self {r : Int × Int} (hr : R32 r) (h : ¬ r.2 = 0) (h2 : ¬ 4294967296 < r.1 + r.2) : meetB r r = true := by
  obtain ⟨a, b⟩ := r
  have h1 := hr.a0
  have h3 := hr.a1
  have h4 := hr.b0
  have h5 := hr.b1
  dsimp only at *
  have e : endI (a, b) = a + b := by unfold endI; dsimp only; omega
  unfold meetB
  rw [e, decide_eq_true_eq]
  dsimp only
  omega
theorem att_new {M : Rn} {r : Int × Int} (hr : R32 r) (h : attE M r = 0) : (∀ p ∈ M, p.1 ≠ r) ∧ M.length < 64 ∧ (∀ p ∈ M, meetB p.1 r = false) ∧ ¬ r.2 = 0 ∧ r.1 + r.2 ≤ 4294967296 := by
  unfold attE at h
  split at h
  · omega
  split at h
  · omega
  split at h
  · omega
  split at h
  · omega
  · rename_i h1 h2 h3 h4
    have h5 : ∀ p ∈ M, meetB p.1 r = false := by
      intro p hp
      cases q : meetB p.1 r with
      | false => rfl
      | true => exact absurd (List.any_eq_true.2 ⟨p, hp, q⟩) h4
    refine ⟨fun p hp e => ?_, by omega, h5, by omega, by omega⟩
    have h6 := h5 p hp
    rw [e, meet_self hr (by omega) (by omega)] at h6
    cases h6
theorem updL_new {κ : Type} [DecidableEq κ] {k : κ} {v : Value} {c : Nat} {M : List (Ent κ)} (h : ∀ p ∈ M, p.1 ≠ k) : updL k v c M = M ++ [(k, v, c)] := by
  have h0 : findL k M 0 = none := findL_none.2 h
  unfold updL
  rw [h0]
theorem BuOk.att {M : Rn} {r : Int × Int} {c : Nat} {d : Value} (h : BuOk M) (hr : R32 r) : BuOk (attM M c r d) := by
  unfold attM
  split
  · rename_i q
    obtain ⟨n1, n2, _⟩ := att_new hr q
    rw [updL_new n1]
    refine ⟨fun p hp => ?_, by simp; omega⟩
    rcases List.mem_append.1 hp with hp | hp
    · exact h.rg p hp
    · simp only [List.mem_singleton] at hp; subst hp; exact hr
  · exact h
set_option maxHeartbeats 8000000 in
set_option maxRecDepth 100000 in
theorem attach_any (b bm : Nat) (M : Rn) (c : Nat) (x1 x2 : Int) (t : TypeId) (dv : Value) (w : World) (hA : BuAt w b bm M c) (hO : BuOk M) (hr : R32 (x1, x2)) :
    Calls Try.prog 31 #[.pointer (some ⟨b, 0, none⟩), .agg #[.int .u32 x1, .int .u32 x2], .iface t dv] w fun e w' => e = .returned (.int .i64 (attE M (x1, x2))) ∧ (∃ c', BuAt w' b bm (attM M c (x1, x2) (.iface t dv)) c') ∧ Only (· = bm) w w' := by
  have key : ∀ (n : Int), ¬ n = 0 → attE M (x1, x2) = n → Calls Try.prog 31 #[.pointer (some ⟨b, 0, none⟩), .agg #[.int .u32 x1, .int .u32 x2], .iface t dv] w (fun e w' => e = .returned (.int .i64 n) ∧ Below w.heap.size w w') → Calls Try.prog 31 #[.pointer (some ⟨b, 0, none⟩), .agg #[.int .u32 x1, .int .u32 x2], .iface t dv] w (fun e w' => e = .returned (.int .i64 (attE M (x1, x2))) ∧ (∃ c', BuAt w' b bm (attM M c (x1, x2) (.iface t dv)) c') ∧ Only (· = bm) w w') := by
    intro n hn he hc
    refine hc.mono ?_
    rintro e w' ⟨rfl, hb⟩
    refine ⟨by rw [he], ⟨c, ?_⟩, only_of hb _⟩
    unfold attM
    rw [if_neg (by rw [he]; exact hn)]
    exact hA.ext hb
  by_cases h1 : ¬ x1 % 4 = 0 ∨ ¬ x2 % 4 = 0
  · exact key 11 (by decide) (by unfold attE; rw [if_pos h1]) (attach_11 b x1 x2 t dv w hr (Lib.hid h1))
  have h1a : x1 % 4 = 0 := by omega
  have h1b : x2 % 4 = 0 := by omega
  by_cases h2 : x2 = 0 ∨ 4294967296 < x1 + x2
  · exact key 5 (by decide) (by unfold attE; rw [if_neg h1, if_pos h2]) (attach_5 b x1 x2 t dv w hr h1a h1b (Lib.hid h2))
  have h2a : ¬ x2 = 0 := fun q => h2 (.inl q)
  have h2b : ¬ 4294967296 < x1 + x2 := fun q => h2 (.inr q)
  by_cases h3 : 64 ≤ M.length
  · exact key 6 (by decide) (by unfold attE; rw [if_neg h1, if_neg h2, if_pos h3]) (attach_6 b bm M c x1 x2 t dv w hA hr h1a h1b h2a h2b h3)
  · refine (attach_go b bm M c x1 x2 t dv w hA hO hr h1a h1b h2a h2b (by omega)).mono ?_
    rintro e w' (⟨rfl, hm, hb⟩ | ⟨rfl, hm, hA', hO'⟩)
    · have he : attE M (x1, x2) = 15 := by unfold attE; rw [if_neg h1, if_neg h2, if_neg h3, if_pos hm]
      refine ⟨by rw [he], ⟨c, ?_⟩, only_of hb _⟩
      unfold attM
      rw [if_neg (by rw [he]; decide)]
      exact hA.ext hb
    · have he : attE M (x1, x2) = 0 := by unfold attE; rw [if_neg h1, if_neg h2, if_neg h3, if_neg (by rw [hm]; decide)]
      refine ⟨by rw [he], ⟨updC (x1, x2) c M, ?_⟩, hO'⟩
      unfold attM
      rw [if_pos he]
      exact hA'
def FindsB (M : Rn) (x : Int) (p : Int × Int) (off code : Int) : Prop :=
  (¬ x % 4 = 0 ∧ p = (0, 0) ∧ off = 0 ∧ code = 11) ∨ (x % 4 = 0 ∧ (∀ q ∈ M, hasB q.1 x = false) ∧ p = (0, 0) ∧ off = 0 ∧ code = 10) ∨ (x % 4 = 0 ∧ (∃ q ∈ M, q.1 = p) ∧ hasB p x = true ∧ off = x - p.1 ∧ code = 0)
set_option maxHeartbeats 8000000 in
set_option maxRecDepth 100000 in
theorem find_11 (v : Value) (x : Int) (w : World) (x0 : 0 ≤ x) (x1 : x ≤ 4294967295) (h : ¬ x % 4 = 0) :
    Calls Try.prog 33 #[v, .int .u32 x] w fun e w' => e = .returned (.tuple #[.agg #[.int .u32 0, .int .u32 0], .int .u32 0, .int .i64 11]) ∧ Below w.heap.size w w' := by
  have d0 := dec_f h
  go_enter Try.func33, Try.ntmps33
  go_wp2_with fail
  go_step3
  go_wp2_with fail
  rw [Exit.noGoto_ret]
  refine bodyPost_ret (v := .tuple #[.agg #[.int .u32 0, .int .u32 0], .int .u32 0, .int .i64 11]) (by simp [results, Try.results33, go_sem]) rfl ⟨rfl, ?_⟩
  repeat (first | exact Below.refl _ _ | exact Ext.ok _ | refine below_new ?_ _ | refine below_set ?_ (by simp) _)
theorem has_in {p1 p2 x : Int} (hp : R32 (p1, p2)) (x0 : 0 ≤ x) (x1 : x ≤ 4294967295) (h : hasB (p1, p2) x = true) : (0 < p2 ∧ p1 ≤ x ∧ x < p1 + p2) ∧ 0 ≤ x - p1 := by
  have h1 := hp.a0
  have h2 := hp.a1
  have h3 := hp.b0
  have h4 := hp.b1
  unfold hasB meetB endI at h
  rw [decide_eq_true_eq] at h
  dsimp only at *
  omega
def RegsOf (v : Value) (M : Rn) (w : World) : Prop := ∀ w', Below w.heap.size w w' → Calls Try.prog 32 #[v] w' fun e w'' => ∃ d : Array (Int × Int), d.toList.Perm (M.map (·.1)) ∧ (∃ v, e = .returned v ∧ Regs w' w'' d v) ∧ Below w'.heap.size w' w''
theorem regsOf_nil (w : World) : RegsOf (.pointer none) [] w := by
  intro w' _
  refine (regs_nil w').mono ?_
  rintro e w'' ⟨rfl, hb⟩
  exact ⟨#[], by simp, ⟨_, rfl, ⟨none, 0, rfl, fun h => absurd h (Nat.lt_irrefl _)⟩⟩, hb⟩
theorem regsOf_live {w : World} {b bm : Nat} {M : Rn} {c : Nat} (hA : BuAt w b bm M c) (hO : BuOk M) : RegsOf (.pointer (some ⟨b, 0, none⟩)) M w := by
  intro w' hb
  refine (regs_any b bm M c w' (hA.ext hb) (Lib.hid (by have := hO.len; omega))).mono ?_
  rintro e w'' ⟨d, h1, _, h2, h3⟩
  exact ⟨d, h1, h2, h3⟩
set_option maxHeartbeats 8000000 in
set_option maxRecDepth 100000 in
theorem find_core (v : Value) (M : Rn) (x : Int) (w : World) (hR : RegsOf v M w) (hO : BuOk M) (x0 : 0 ≤ x) (x1 : x ≤ 4294967295) (h : x % 4 = 0) :
    Calls Try.prog 33 #[v, .int .u32 x] w fun e w' => ∃ p1 p2 off code, e = .returned (.tuple #[.agg #[.int .u32 p1, .int .u32 p2], .int .u32 off, .int .i64 code]) ∧ FindsB M x (p1, p2) off code ∧ Below w.heap.size w w' := by
  have d0 := dec_t h
  have HO := Lib.hid hO
  have HRR := Lib.hid hR
  clear hO hR
  go_enter Try.func33, Try.ntmps33
  go_wp2_with fail
  go_step3
  go_wp2_with fail
  go_step3
  dsimp only [Exit.then]
  refine k_name (Pr := fun W => RowAt W w.heap.size #[.int .u32 0, .int .u32 0] 52 ∧ RowAt W (w.heap.size + 1) #[.int .u32 0, .int .u32 0] 52 ∧ Below w.heap.size w W) ⟨(RowAt.new w _ _).alloc _, by have h := RowAt.new (w.alloc (.cells #[.int .u32 0, .int .u32 0] 52)) #[.int .u32 0, .int .u32 0] 52 ; simpa using h, below_new (below_new (Below.refl _ _) _) _⟩ ?_
  rintro W ⟨hX, hY, hB⟩
  have HX := Lib.hid hX
  have HY := Lib.hid hY
  have HB := Lib.hid hB
  clear hX hY hB
  go_upto_region 5 with (go_at_call 32; refine (HRR.out _ HB.out).mono ?_; rintro e w1 ⟨d, hperm, ⟨v, rfl, hR⟩, hb1⟩; obtain ⟨sa, cap, rfl, _⟩ := id hR.v)
  have HP := Lib.hid hperm
  have HR1 := Lib.hid hR
  have HB1 := Lib.hid hb1
  clear hperm hR hb1
  go_loopw [17] (fun v wr => ∃ i : Nat, i ≤ d.size ∧ v = .int .i64 i ∧ (∀ j, j < i → hasB d[j]! x = false) ∧ Below w1.heap.size w1 wr) (fun v _ => d.size - (intOf v).toNat)
  case atStart => exact ⟨0, by omega, rfl, fun j hj => by omega, Below.refl _ _⟩
  case round =>
    obtain ⟨i, hi, rfl, hj, hBr⟩ := hrel
    have HJ := Lib.hid hj
    have HBR := Lib.hid hBr
    clear hj hBr
    have HW := Lib.hid (below_then (below_then HB.out HB1.out) HBR.out)
    have HXR := Lib.hid (RowAt.ext HX.out (below_then HB1.out HBR.out))
    have HYR := Lib.hid (RowAt.ext HY.out (below_then HB1.out HBR.out))
    have hgx : w.heap.size + 1 < wr.heap.size := HYR.out.lt
    by_cases hlt : i < d.size
    · obtain ⟨g, ha, hg0, hg1, hC⟩ := HR1.out.cells (by omega)
      subst ha
      obtain ⟨⟨y1, y2⟩, hy⟩ : ∃ p, d[i]! = p := ⟨_, rfl⟩
      have HC := hC i hlt
      rw [hy] at HC
      have c0 : wr.cell? ⟨g, i * 2, none⟩ = some (.int .u32 y1) := (HBR.out.cell hg1).trans HC.1
      have c1 : wr.cell? ⟨g, i * 2 + 1, none⟩ = some (.int .u32 y2) := (HBR.out.cell hg1).trans HC.2
      have hgr : g < wr.heap.size := Nat.lt_of_lt_of_le hg1 HBR.out.size
      obtain ⟨p, hp, hpe⟩ := mem_of_perm HP.out hlt
      rw [hy] at hpe
      have HYY := Lib.hid (show R32 (y1, y2) from hpe ▸ HO.out.rg p hp)
      have HMP := Lib.hid (And.intro hp hpe)
      have HYE := Lib.hid hy
      have t0 : decide ((i : Int) < (d.size : Int)) = true := dec_t (by omega)
      clear hC HC hp hpe hy hg0 hg1
      by_cases hm : hasB (y1, y2) x = true
      · go_upto_region 8 with (go_at_call 28; refine (has_any y1 y2 x HYY.out x0 x1 _).mono ?_; rintro e w2 ⟨rfl, hb1⟩; rw [hm])
        refine wp_name (Pr := fun W2 => RowAt W2 w.heap.size #[.int .u32 0, .int .u32 0] 52 ∧ RowAt W2 (w.heap.size + 1) #[.int .u32 0, .int .u32 0] 52 ∧ RowAt W2 wr.heap.size #[.int .u32 y1, .int .u32 y2] 52 ∧ Below w.heap.size w W2) ⟨RowAt.ext (HXR.out.alloc _) hb1, RowAt.ext (HYR.out.alloc _) hb1, RowAt.ext (RowAt.new wr _ _) hb1, below_then (below_new HW.out _) hb1⟩ ?_
        clear c0 c1 hgr HX HY HB HB1 HBR HJ HW HXR HYR HR1 hb1
        rintro W2 ⟨hX, hY, hZ, hB⟩
        have HX := Lib.hid hX
        have HY := Lib.hid hY
        have HB := Lib.hid hB
        have z0 := hZ.cell (i := 0) rfl
        have z1 := hZ.cell (i := 1) rfl
        have q0 := hY.cell (i := 0) rfl
        have q1 := hY.cell (i := 1) rfl
        have f0 := hY.frozen 0
        have f1 := hY.frozen 1
        have l0 := hY.lt
        clear hX hY hZ hB
        go_upto_region 10 with fail
        refine wp_name (Pr := fun W3 => RowAt W3 w.heap.size #[.int .u32 0, .int .u32 0] 52 ∧ RowAt W3 (w.heap.size + 1) #[.int .u32 y1, .int .u32 y2] 52 ∧ Below w.heap.size w W3) ⟨RowAt.but HX.out (((But.refl _ _).set 0 _).set 1 _) (by omega), (HY.out.set 0 _).set 1 _, below_set (below_set HB.out (Nat.le_succ _) _) (Nat.le_succ _) _⟩ ?_
        obtain ⟨hh1, hh2⟩ := has_in HYY.out x0 x1 hm
        have hsub : IntKind.u32.wrap (x - y1) = x - y1 := by have := HYY.out.a0; rw [IntKind.wrap_u32]; dsimp only at *; omega
        have hne : (y2 == 0) = false := by have := HYY.out.b0; simp; omega
        have hz : ∀ w, (Op.equal 52 (.agg #[.int .u32 y1, .int .u32 y2]) (.agg #[.int .u32 0, .int .u32 0])).run Try.prog w = .ok false w := fun w => by
          have h := rk_run y1 y2 0 0 w
          rw [hne, Bool.and_false] at h
          exact h
        have HH := Lib.hid (And.intro hh1 hm)
        have hn2 : ¬ y2 = 0 := by simpa using hne
        clear z0 z1 q0 q1 f0 f1 l0 HX HY HB hh1 hh2 hm
        rintro W3 ⟨hX, hY, hB⟩
        have HX := Lib.hid hX
        have HY := Lib.hid hY
        have HB := Lib.hid hB
        have q0 := hY.cell (i := 0) rfl
        have q1 := hY.cell (i := 1) rfl
        clear hX hY hB
        go_upto_region 12 with (first | simp only [hz] | fail)
        have x0' := HX.out.cell (i := 0) rfl
        have x1' := HX.out.cell (i := 1) rfl
        have fx0 := HX.out.frozen 0
        have fx1 := HX.out.frozen 1
        have HSS := Lib.hid (show W3.drew.cell? ⟨w.heap.size + 1, 0, none⟩ = some (.int .u32 y1) ∧ W3.drew.cell? ⟨w.heap.size + 1, 1, none⟩ = some (.int .u32 y2) from ⟨HY.out.drew.cell (i := 0) rfl, HY.out.drew.cell (i := 1) rfl⟩)
        have HS2 := Lib.hid (show ∀ a c, ((W3.setCell ⟨w.heap.size, 0, none⟩ a).setCell ⟨w.heap.size, 1, none⟩ c).drew.cell? ⟨w.heap.size + 1, 0, none⟩ = some (.int .u32 y1) ∧ ((W3.setCell ⟨w.heap.size, 0, none⟩ a).setCell ⟨w.heap.size, 1, none⟩ c).drew.cell? ⟨w.heap.size + 1, 1, none⟩ = some (.int .u32 y2) from fun a c => by
          have h := RowAt.but HY.out (((But.refl w.heap.size W3).set 0 a).set 1 c) (by omega)
          exact ⟨h.drew.cell (i := 0) rfl, h.drew.cell (i := 1) rfl⟩)
        refine wp_region_held_drew (S := (fun w' => w'.cell? ⟨w.heap.size + 1, 0, none⟩ = some (.int .u32 y1) ∧ w'.cell? ⟨w.heap.size + 1, 1, none⟩ = some (.int .u32 y2))) (by kernel_rfl) HSS.out (fun hHeld => ?_)
        refine' wpAnyH_take (i := 0) (v := ?v1) rfl (by kernel_rfl) (by kernel_rfl) (by kernel_rfl) (fun _ _ _ h => h) (Or.inl ⟨by rfl, ?hy1⟩) hHeld ?rest1
        case hy1 => (intro w hSw; (try dsimp only at hSw); go_simp; try with_reducible rfl)
        try simp only [Act.put, List.setIfInBounds_toArray, List.set_cons_zero, List.set_cons_succ]
        refine' wpAnyH_take (i := 1) (v := ?v2) rfl (by kernel_rfl) (by kernel_rfl) (by kernel_rfl) (fun _ _ _ h => h) (Or.inl ⟨by rfl, ?hy2⟩) hHeld ?rest2
        case hy2 => (intro w hSw; (try dsimp only at hSw); go_simp; try with_reducible rfl)
        try simp only [Act.put, List.setIfInBounds_toArray, List.set_cons_zero, List.set_cons_succ]
        refine' wpAnyH_take (i := 2) (v := ?v3) rfl (by kernel_rfl) (by kernel_rfl) (by kernel_rfl) (fun _ _ _ h => h) (Or.inl ⟨by rfl, ?hy3⟩) hHeld ?rest3
        case hy3 => (intro w hSw; (try dsimp only at hSw); go_simp; try with_reducible rfl)
        try simp only [Act.put, List.setIfInBounds_toArray, List.set_cons_zero, List.set_cons_succ]
        refine' wpAnyH_take (i := 3) (v := ?v4) rfl (by kernel_rfl) (by kernel_rfl) (by kernel_rfl) (fun _ _ _ h => h) (Or.inl ⟨by rfl, ?hy4⟩) hHeld ?rest4
        case hy4 => (intro w hSw; (try dsimp only at hSw); go_simp; try with_reducible rfl)
        try simp only [Act.put, List.setIfInBounds_toArray, List.set_cons_zero, List.set_cons_succ]
        refine' wpAnyH_take (i := 4) (v := ?v5) rfl (by kernel_rfl) (by kernel_rfl) (by kernel_rfl) (fun _ _ _ h => h) (Or.inl ⟨by rfl, ?hy5⟩) hHeld ?rest5
        case hy5 => (intro w hSw; (try dsimp only at hSw); go_simp; try with_reducible rfl)
        try simp only [Act.put, List.setIfInBounds_toArray, List.set_cons_zero, List.set_cons_succ]
        refine wpAnyH_ready (rs := [5]) (by kernel_rfl) (by simp) ?_
        refine AllReadyH.cons rfl (fun K hK => ?_) AllReadyH.nil
        go_simp
        refine hK.out _ _ (HS2.out _ _) (fun hHeld => ?_)
        clear hK K
        try simp only [Act.put, List.setIfInBounds_toArray, List.set_cons_zero, List.set_cons_succ]
        refine wpAnyH_ready (rs := [6]) (by kernel_rfl) (by simp) ?_
        refine AllReadyH.cons rfl (fun K hK => ?_) AllReadyH.nil
        go_simp
        refine hK.out _ _ hHeld (fun hHeld => ?_)
        clear hK K
        try simp only [Act.put, List.setIfInBounds_toArray, List.set_cons_zero, List.set_cons_succ]
        refine wpAnyH_ready (rs := [7]) (by kernel_rfl) (by simp) ?_
        refine AllReadyH.cons rfl (fun K hK => ?_) AllReadyH.nil
        go_simp
        refine hK.out _ _ hHeld (fun hHeld => ?_)
        clear hK K
        try simp only [Act.put, List.setIfInBounds_toArray, List.set_cons_zero, List.set_cons_succ]
        refine wpAnyH_done (by kernel_rfl) ?_ _
        dsimp only [Exit.then]
        refine k_name (Pr := fun W' => RowAt W' w.heap.size #[.int .u32 y1, .int .u32 y2] 52 ∧ Below w.heap.size w W') ⟨((HX.out.set 0 _).set 1 _).drew, (below_set (below_set HB.out (Nat.le_refl _) _) (Nat.le_refl _) _).drew⟩ ?_
        clear hHeld HSS HS2 x0' x1' fx0 fx1 HX HY HB q0 q1
        rintro W6 ⟨h6, hB6⟩
        have e0 := h6.cell (i := 0) rfl
        have e1 := h6.cell (i := 1) rfl
        have HB6 := Lib.hid hB6
        clear h6 hB6
        go_at_K
        go_wp2_with fail
        rw [Exit.noGoto_ret]
        refine bodyPost_ret (v := .tuple #[.agg #[.int .u32 y1, .int .u32 y2], .int .u32 (x - y1), .int .i64 0]) (by simp [results, Try.results33, go_sem, e0, e1]) rfl ⟨_, _, _, _, rfl, Or.inr (Or.inr ⟨h, ⟨p, HMP.out.1, HMP.out.2⟩, HH.out.2, rfl, rfl⟩), HB6.out⟩
      · have hm' : hasB (y1, y2) x = false := by simpa using hm
        have hsz : d.size = M.length := by simpa using HP.out.length_eq
        have w64 : wrap64 ((i : Int) + 1) = (i : Int) + 1 := by have := HO.out.len; unfold wrap64; omega
        clear hm hsz
        go_wp2_with (go_at_call 28; refine (has_any y1 y2 x HYY.out x0 x1 _).mono ?_; rintro e w2 ⟨rfl, hb1⟩; rw [hm'])
        go_roundw
        case measure => rw [w64]; simp only [intOf]; omega
        case rel =>
          refine ⟨i + 1, by omega, by rw [w64]; rfl, fun j hj => ?_, ?_⟩
          · rcases Nat.lt_or_ge j i with q | q
            · exact HJ.out j q
            · obtain rfl : j = i := by omega
              rw [HYE.out]; exact hm'
          · have HBR' := HBR.out
            repeat (first | exact HBR' | refine below_then ?_ hb1 | refine below_new ?_ _ | refine below_set ?_ (by simp) _)
    · obtain rfl : i = d.size := by omega
      have t0 : decide ((d.size : Int) < (d.size : Int)) = false := dec_f (by omega)
      have hno : ∀ q ∈ M, hasB q.1 x = false := by
        intro p hp
        obtain ⟨j, hj, e⟩ := of_perm HP.out hp
        have := HJ.out j hj
        rw [e] at this
        exact this
      go_upto_region 10 with fail
      refine wp_name (Pr := fun W3 => RowAt W3 w.heap.size #[.int .u32 0, .int .u32 0] 52 ∧ RowAt W3 (w.heap.size + 1) #[.int .u32 0, .int .u32 0] 52 ∧ Below w.heap.size w W3) ⟨HXR.out, HYR.out, HW.out⟩ ?_
      clear HX HY HB HB1 HBR HJ HW HXR HYR HR1 hgx hlt t0
      rintro W3 ⟨hX, hY, hB⟩
      have HX := Lib.hid hX
      have HB := Lib.hid hB
      have q0 := hY.cell (i := 0) rfl
      have q1 := hY.cell (i := 1) rfl
      have z0 := hX.cell (i := 0) rfl
      have z1 := hX.cell (i := 1) rfl
      have f0 := hX.frozen 0
      have f1 := hX.frozen 1
      clear hX hY hB
      go_wp2_with fail
      rw [Exit.noGoto_ret]
      refine bodyPost_ret (v := .tuple #[.agg #[.int .u32 0, .int .u32 0], .int .u32 0, .int .i64 10]) (by simp [results, Try.results33, go_sem, z0, z1]) rfl ⟨_, _, _, _, rfl, Or.inr (Or.inl ⟨h, hno, rfl, rfl, rfl⟩), ?_⟩
      have HB' := HB.out
      repeat (first | exact HB' | refine below_new ?_ _ | refine below_set ?_ (by simp) _)
end Go.Proofs.Ytgkklgebgabncaa
