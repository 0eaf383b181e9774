/- A region that draws its order, in whose head operations make new blocks beside calls that make memory: one walk serves every order. -/
import Derived.Test.YtdhgcmodlikckaaTail
namespace Go.Proofs.Ytdhgcmodlikckaa
open Go.RowKit
set_option linter.unusedVariables false
set_option linter.unusedSimpArgs false

/-! ### A call comes to one end -/
/-- A frame that stands still. -/
def deadFrame : Frame := { fn := 0, tmps := #[], todo := [.code (.cond (.const (.int .i64 0)) .skip .skip)], defers := [], mode := .run, kind := .normal }
theorem dead_step (P : Program) (w : World) : ∃ o w', step P (lone deadFrame [] w) = .ended o w' := by
  have h : (stepG P true { frame := deadFrame, callers := [], status := .running, dying := none } w).bare = .ended (.stuck "cond: bool expected" (deadFrame.pos P)) w := by
    simp [stepG, stepG.exec, deadFrame, Frame.eval]
  exact ⟨_, _, step_lone_ended h⟩
theorem dead_run (P : Program) (w : World) (n : Nat) (m : Machine) (h : runN P (n + 1) (lone deadFrame [] w) = .next m) : False := by
  obtain ⟨o, w', hs⟩ := dead_step P w
  simp [runN, hs] at h
theorem Calls.same {P : Program} {f : FuncId} {args : Array Value} {w : World} {v v' : Value} {R R' : World → Prop}
    (h : Calls P f args w fun e w' => e = .returned v ∧ R w') (h' : Calls P f args w fun e w' => e = .returned v' ∧ R' w') : v = v' := by
  obtain ⟨e, w1, fr1, ⟨rfl, _⟩, ⟨n1, hn1⟩, _, hl1⟩ := h [deadFrame]
  obtain ⟨e, w2, fr2, ⟨rfl, _⟩, ⟨n2, hn2⟩, _, hl2⟩ := h' [deadFrame]
  have key : ∀ {n n' : Nat} {fr fr' : Frame} {u u' : World} {x x' : Value}, runN P n (lone (Frame.enter P f args .normal) [deadFrame] w) = .next (lone fr [deadFrame] u) →
      runN P n' (lone (Frame.enter P f args .normal) [deadFrame] w) = .next (lone fr' [deadFrame] u') → fr.leaving P u (.returned x) → n < n' → False := by
    intro n n' fr fr' u u' x x' q1 q2 q3 hlt
    obtain ⟨d, rfl⟩ : ∃ d, n' = n + (d + 1) := ⟨n' - n - 1, by omega⟩
    rw [runN_add, q1] at q2
    simp only [runN, step_leave_returned q3] at q2
    have hf : deadFrame.finish x = deadFrame := rfl
    rw [hf] at q2
    cases d with
    | zero =>
      simp only [runN] at q2
      injection q2 with q2
      simp [lone] at q2
    | succ d => exact dead_run P u d _ q2
  rcases Nat.lt_trichotomy n1 n2 with q | q | q
  · exact (key (x' := v) hn1 hn2 hl1 q).elim
  · subst q
    rw [hn1] at hn2
    injection hn2 with hn2
    simp only [lone, Machine.mk.injEq, Array.mk.injEq, List.cons.injEq, Goroutine.mk.injEq, and_true, true_and] at hn2
    obtain ⟨rfl, rfl⟩ := hn2
    obtain ⟨_, _, _, fn, hf, hr⟩ := hl1
    obtain ⟨_, _, _, fn', hf', hr'⟩ := hl2
    rw [hf] at hf'
    injection hf' with hf'
    subst hf'
    rw [hr] at hr'
    injection hr'
  · exact (key (x' := v) hn2 hn1 hl2 q).elim
theorem quiet_same {P : Program} {o : Oper} {a : Act} {C C' : World → Prop} {w : World} {v v' : Value} (h : o.quietAt P a C w v) (h' : o.quietAt P a C' w v') : v = v' := by
  unfold Oper.quietAt at h h'
  generalize (execOp a.eval o).run P w = r at *
  cases r with
  | ok n w' =>
    cases n <;> simp only [Oper.quietUpon] at h h'
    case value u => exact h.2.symm.trans h'.2
    case skip => exact h.2.trans h'.2.symm
    case enter f args => exact Calls.same h.2 h'.2
  | halt x w' => simp only [Oper.quietUpon] at h
/-! ### The makers -/
theorem wpQuiet_mono {P : Program} {ops : Array Oper} {C : World → Prop} {Q Q' : Act → Prop} (h : ∀ a, Q a → Q' a) : ∀ (l : List Oper) (a : Act), wpQuiet P ops C Q l a → wpQuiet P ops C Q' l a
  | [], a, hq => h a hq
  | o :: rest, a, hq => by
    unfold wpQuiet at hq ⊢
    split
    · rename_i hw
      rw [if_pos hw] at hq
      exact Oper.quiet_mono (fun a' => wpQuiet_mono h rest a') hq
    · rename_i hw
      rw [if_neg hw] at hq
      exact wpQuiet_mono h rest _ hq
/-- What a maker hands on, by its block's number; what it lays there. -/
structure Maker where
  val : Nat → Value
  obj : Obj
def turnOp (M : Nat → Option Maker) (G : Nat → Nat) (k : Nat) (o : Oper) : Oper :=
  match M k with
  | some m => { o with op := .move (.const (m.val (G k))) }
  | none => o
def turnL (M : Nat → Option Maker) (G : Nat → Nat) (l : List Oper) : List Oper := l.mapIdx (turnOp M G)
theorem turnL_get {M : Nat → Option Maker} {G : Nat → Nat} {l : List Oper} {n i : Nat} (hi : i < n) : (turnL M G (l.take n)).toArray[i]? = (l[i]?).map (turnOp M G i) := by
  simp [turnL, List.getElem?_mapIdx, List.getElem?_take, hi]
theorem turnL_none {M : Nat → Option Maker} {G : Nat → Nat} {l : List Oper} {n i : Nat} (hi : n ≤ i) : (turnL M G (l.take n)).toArray[i]? = none := by
  simp [turnL, List.getElem?_mapIdx, List.getElem?_take, Nat.not_lt.2 hi]
theorem turnOp_after (M : Nat → Option Maker) (G : Nat → Nat) (k : Nat) (o : Oper) : (turnOp M G k o).after = o.after ∧ (turnOp M G k o).dst = o.dst ∧ (turnOp M G k o).guard = o.guard := by
  unfold turnOp
  split <;> simp
def Beyond (w : World) : World → Prop := fun w' => ∃ y : Ext w.heap.size w, w' = y.world
theorem beyond_iff {w w' : World} : Beyond w w' ↔ Below w.heap.size w w' := ⟨fun ⟨y, h⟩ => h ▸ y.ok, fun h => ⟨⟨w', h⟩, rfl⟩⟩
section
variable {P : Program} {l : List Oper} {n : Nat} {Q : Exit → Act → World → Prop} {M : Nat → Option Maker}
theorem ready_turn (ok : TailOk l n) (G : Nat → Nat) {listed : Array Bool} (hs : listed.size = l.length) {i : Nat} : i ∈ Region.ready .any (turnL M G (l.take n)).toArray (headOf listed n) ↔ i < n ∧ i ∈ Region.ready .any l.toArray listed := by
  have hlt := ok.lt
  rw [mem_ready, mem_ready]
  by_cases hi : i < n
  · rw [turnL_get hi, headOf_getD true (by omega) hi]
    have e : l.toArray[i]? = l[i]? := by simp
    rw [e]
    constructor
    · rintro ⟨h1, o, ho, h2⟩
      refine ⟨hi, h1, ?_⟩
      cases hq : l[i]? with
      | none => rw [hq] at ho; simp at ho
      | some o' =>
        rw [hq] at ho
        simp only [Option.map_some, Option.some.injEq] at ho
        subst ho
        refine ⟨o', rfl, fun e he hb => ?_⟩
        have := ok.low i o' hq e he hb
        have q := h2 e (by rw [(turnOp_after M G i o').1]; exact he) hb
        rw [headOf_getD false (by omega) (by omega)] at q
        exact q
    · rintro ⟨_, h1, o, ho, h2⟩
      refine ⟨h1, turnOp M G i o, by rw [ho]; rfl, fun e he hb => ?_⟩
      rw [(turnOp_after M G i o).1] at he
      have := ok.low i o ho e he hb
      rw [headOf_getD false (by omega) (by omega)]
      exact h2 e he hb
  · rw [turnL_none (by omega)]
    simp [hi]
/-- The frame's makers so far, and what lies in their blocks. -/
structure Laid (M : Nat → Option Maker) (B : Nat) (listed : Array Bool) (G : Nat → Nat) (w : World) : Prop where
  low : ∀ k m, M k = some m → listed.getD k false = true → B ≤ G k
  obj : ∀ k m, M k = some m → listed.getD k false = true → w.heap[G k]? = some m.obj
  inj : ∀ j k m m', M j = some m → M k = some m' → listed.getD j false = true → listed.getD k false = true → G j = G k → j = k
theorem yielded_turn (ok : TailOk l n) (G : Nat → Nat) {i : Nat} {o : Oper} (hi : i < n) (ho : l[i]? = some o) (a : Act) : Region.wanted (turnOp M G i o) (yielded (turnL M G (l.take n)).toArray a.tmps) = Region.wanted o (yielded l.toArray a.tmps) := by
  unfold Region.wanted
  rw [(turnOp_after M G i o).2.2]
  cases hg : o.guard with
  | none => rfl
  | some p =>
    obtain ⟨j, b⟩ := p
    have hj := ok.guard i o j b hi ho hg
    simp only [yielded]
    rw [turnL_get hj]
    have e : l.toArray[j]? = l[j]? := by simp
    rw [e]
    cases l[j]? with
    | none => rfl
    | some o' => simp [(turnOp_after M G j o').2.1]
theorem all_listed_of_empty (ok : TailOk l n) {listed : Array Bool} (hs : listed.size = l.length) (h : ∀ i, i < n → i ∈ Region.ready .any l.toArray listed → False) : ∀ i, i < n → listed.getD i false = true := by
  have hlt := ok.lt
  intro i
  induction i using Nat.strongRecOn with
  | _ i ih =>
  intro hi
  cases hc : listed.getD i false with
  | true => rfl
  | false =>
    exact (h i hi (mem_ready.2 ⟨by rw [getD_in_range (by omega) true false]; exact hc, l[i], by simp, fun e he hb => by
      have := ok.low i _ (List.getElem?_eq_getElem (by omega)) e he hb
      exact ih e.on this (by omega)⟩)).elim
theorem ready_head (ok : TailOk l n) {listed : Array Bool} (hs : listed.size = l.length) (ht : ∀ t, n ≤ t → t < l.length → listed.getD t true = false) (hcl : Closed l listed) (hall : ¬ ∀ i, i < n → listed.getD i false = true) {i : Nat} (hi : i ∈ Region.ready .any l.toArray listed) : i < n := by
  have hlt := ok.lt
  obtain ⟨h1, o, ho, h2⟩ := mem_ready.1 hi
  have ho' : l[i]? = some o := by simpa using ho
  have hil : i < l.length := by
    rcases Nat.lt_or_ge i l.length with h | h
    · exact h
    · rw [List.getElem?_eq_none h] at ho'; cases ho'
  rcases Nat.lt_trichotomy i n with h | h | h
  · exact h
  · exfalso
    subst h
    apply hall
    have hdown : ∀ (d q : Nat), i - q = d → q < i → listed.getD q false = true := by
      intro d
      induction d using Nat.strongRecOn with
      | _ d ihd =>
      intro q hqd hq
      obtain ⟨j, hqj, hji, hwj⟩ := ok.sink q hq
      rcases Nat.lt_or_ge j i with hj | hj
      · have hlj := ihd (i - j) (by omega) j rfl hj
        obtain ⟨e, he, hb, hon⟩ := waits_edge hwj (List.getElem?_eq_getElem (show j < l.length by omega))
        rw [← hon]
        exact hcl j _ (List.getElem?_eq_getElem (show j < l.length by omega)) hlj e he hb
      · obtain rfl : j = i := by omega
        obtain ⟨e, he, hb, hon⟩ := waits_edge hwj ho'
        rw [← hon]; exact h2 e he hb
    exact fun q hq => hdown _ q rfl hq
  · exfalso
    obtain ⟨e, he, hb, hon⟩ := waits_edge (ok.chain i h hil) ho'
    have := h2 e he hb
    rw [hon, getD_in_range (by omega) false true, ht (i - 1) (by omega) (by omega)] at this
    cases this
theorem listed_set {listed : Array Bool} {i k : Nat} (hs : i < listed.size) : (listed.setIfInBounds i true).getD k false = if k = i then true else listed.getD k false := by
  by_cases h : k = i
  · subst h; simp [hs]
  · rw [if_neg h]
    simp only [Array.getD_eq_getD_getElem?, Array.getElem?_setIfInBounds_ne (Ne.symm h)]
theorem free_run (ok : TailOk l n) {w0 : World}
    (hmk : ∀ k m, M k = some m → ∃ o, l[k]? = some o ∧ o.guard = none ∧ ∀ (a : Act) (w : World), (execOp a.eval o).run P w = .ok (.value (m.val w.heap.size)) (w.alloc m.obj))
    {Qf : (Nat → Nat) → Act → Prop} (hM : ∀ k m, M k = some m → k < n)
    (hQ : ∀ G a w, Below w0.heap.size w0 w → (∀ k m, M k = some m → w0.heap.size ≤ G k ∧ w.heap[G k]? = some m.obj) → (∀ j k m m', M j = some m → M k = some m' → G j = G k → j = k) → Qf G a → wpList P l.toArray Q (l.drop n) a w) :
    ∀ (f : Nat) (listed : Array Bool) (a : Act) (w : World) (G0 : Nat → Nat), listed.size = l.length → (∀ t, n ≤ t → t < l.length → listed.getD t true = false) → Closed l listed → Below w0.heap.size w0 w → Laid M w0.heap.size listed G0 w →
      (∀ G, (∀ k m, M k = some m → listed.getD k false = true → G k = G0 k) → ∀ w1, Below w.heap.size w w1 → wpAnyQ P .any (turnL M G (l.take n)).toArray (Beyond w1) (Qf G) f (headOf listed n) a) →
      wpAny P .any l.toArray Q (f + (l.length - n)) listed a w := by
  intro f
  induction f with
  | zero =>
    intro listed a w G0 hs ht hcl hw hL h
    have hlt := ok.lt
    have h0 := h G0 (fun _ _ _ _ => rfl) w (Below.refl _ _)
    have hall := all_listed_of_empty ok hs (fun i hi hr => by
      have := (ready_turn (M := M) ok G0 hs).2 ⟨hi, hr⟩
      rw [h0.1] at this; cases this)
    exact tail_run ok _ n _ listed a w rfl (Nat.le_refl _) (Nat.le_of_lt ok.lt) (by omega) ⟨hs, hall, ht⟩
      (hQ G0 a w hw (fun k m hk => ⟨hL.low k m hk (hall k (hM k m hk)), hL.obj k m hk (hall k (hM k m hk))⟩) (fun j k m m' hj hk => hL.inj j k m m' hj hk (hall j (hM j m hj)) (hall k (hM k m' hk))) h0.2)
  | succ f ih =>
    intro listed a w G0 hs ht hcl hw hL h
    have hlt := ok.lt
    by_cases hall : ∀ i, i < n → listed.getD i false = true
    · have h0 := h G0 (fun _ _ _ _ => rfl) w (Below.refl _ _)
      have hempty : Region.ready .any (turnL M G0 (l.take n)).toArray (headOf listed n) = [] := by
        apply List.eq_nil_iff_forall_not_mem.2
        intro i hi
        obtain ⟨hin, hr⟩ := (ready_turn (M := M) ok G0 hs).1 hi
        obtain ⟨h1, _⟩ := mem_ready.1 hr
        rw [getD_in_range (by omega) true false, hall i hin] at h1
        cases h1
      exact tail_run ok _ n _ listed a w rfl (Nat.le_refl _) (Nat.le_of_lt ok.lt) (by omega) ⟨hs, hall, ht⟩
        (hQ G0 a w hw (fun k m hk => ⟨hL.low k m hk (hall k (hM k m hk)), hL.obj k m hk (hall k (hM k m hk))⟩) (fun j k m m' hj hk => hL.inj j k m m' hj hk (hall j (hM j m hj)) (hall k (hM k m' hk))) (h0.1 hempty))
    · rw [show f + 1 + (l.length - n) = (f + (l.length - n)) + 1 by omega]
      refine ⟨fun he => ?_, fun i hi => ?_⟩
      · exfalso
        exact hall (all_listed_of_empty ok hs (fun i _ hr => by rw [he] at hr; cases hr))
      · have hin := ready_head ok hs ht hcl hall hi
        have hi0 := mem_ready.1 hi
        obtain ⟨hl1, o, ho, ho2⟩ := hi0
        have ho' : l[i]? = some o := by simpa using ho
        have hnl : listed.getD i false = false := by rw [getD_in_range (by omega) false true]; exact hl1
        have hs' : (listed.setIfInBounds i true).size = l.length := by simp [hs]
        have ht' : ∀ t, n ≤ t → t < l.length → (listed.setIfInBounds i true).getD t true = false := fun t h1 h2 => by
          have := ht t h1 h2
          simp only [Array.getD_eq_getD_getElem?, Array.getElem?_setIfInBounds_ne (show i ≠ t by omega)] at this ⊢
          exact this
        have hcl' : Closed l (listed.setIfInBounds i true) := hcl.step ho' ho2
        have hq : ∀ G, (∀ k m, M k = some m → listed.getD k false = true → G k = G0 k) → ∀ w1, Below w.heap.size w w1 →
            qOp P (turnL M G (l.take n)).toArray (Beyond w1) i (wpAnyQ P .any (turnL M G (l.take n)).toArray (Beyond w1) (Qf G) f (headOf (listed.setIfInBounds i true) n)) a := fun G hG w1 h1 => by
          have := (h G hG w1 h1).2 i ((ready_turn (M := M) ok G hs).2 ⟨hin, hi⟩)
          rw [← headOf_set hin] at this
          exact this
        have hq2 : ∀ G, (∀ k m, M k = some m → listed.getD k false = true → G k = G0 k) → ∀ w1, Below w.heap.size w w1 →
            (if Region.wanted o (yielded l.toArray a.tmps) = true then (turnOp M G i o).quiet P a (Beyond w1) (wpAnyQ P .any (turnL M G (l.take n)).toArray (Beyond w1) (Qf G) f (headOf (listed.setIfInBounds i true) n)) else wpAnyQ P .any (turnL M G (l.take n)).toArray (Beyond w1) (Qf G) f (headOf (listed.setIfInBounds i true) n) (a.put o.dst undef)) := fun G hG w1 h1 => by
          have q := hq G hG w1 h1
          unfold qOp at q
          rw [turnL_get hin, ho'] at q
          simp only [Option.map_some] at q
          rw [yielded_turn ok G hin ho', (turnOp_after M G i o).2.1] at q
          exact q
        unfold wpOp
        simp only [ho]
        by_cases hwd : Region.wanted o (yielded l.toArray a.tmps) = true
        · rw [if_pos hwd]
          left
          simp only [hwd, if_true] at hq2
          cases hMi : M i with
          | none =>
            have et : ∀ G, turnOp M G i o = o := fun G => by unfold turnOp; rw [hMi]
            simp only [et] at hq2
            obtain ⟨v, hv1, hv2⟩ := hq2 G0 (fun _ _ _ _ => rfl) w (Below.refl _ _)
            have hL' : ∀ w', Below w.heap.size w w' → Laid M w0.heap.size (listed.setIfInBounds i true) G0 w' := fun w' hb => by
              have hk : ∀ k m, M k = some m → (listed.setIfInBounds i true).getD k false = true → listed.getD k false = true := fun k m hk hlk => by
                rw [listed_set (by omega)] at hlk
                by_cases e : k = i
                · subst e; rw [hMi] at hk; cases hk
                · rwa [if_neg e] at hlk
              exact ⟨fun k m h1 h2 => hL.low k m h1 (hk k m h1 h2), fun k m h1 h2 => block_below (hL.obj k m h1 (hk k m h1 h2)) hb, fun j k m m' h1 h2 h3 h4 => hL.inj j k m m' h1 h2 (hk j m h1 h3) (hk k m' h2 h4)⟩
            have next : ∀ w', Below w.heap.size w w' → wpAny P .any l.toArray Q (f + (l.length - n)) (listed.setIfInBounds i true) (a.put o.dst v) w' := fun w' hb => by
              refine ih _ _ w' G0 hs' ht' hcl' (below_then hw hb) (hL' w' hb) fun G hG w1 h1 => ?_
              have hG' : ∀ k m, M k = some m → listed.getD k false = true → G k = G0 k := fun k m hk hlk => hG k m hk (by
                rw [listed_set (by omega)]
                by_cases e : k = i
                · rw [if_pos e]
                · rw [if_neg e]; exact hlk)
              obtain ⟨v', hv1', hv2'⟩ := hq2 G hG' w1 (below_then hb h1)
              have e : v = v' := quiet_same (hv1 w1 (beyond_iff.2 (below_then hb h1))) (hv1' w1 (beyond_iff.2 (Below.refl _ _)))
              rw [e]
              exact hv2'
            have hrun := hv1 w (beyond_iff.2 (Below.refl _ _))
            unfold Oper.quietAt at hrun
            unfold Oper.wp
            generalize (execOp a.eval o).run P w = r at *
            cases r with
            | ok nx w' =>
              cases nx <;> simp only [Oper.quietUpon] at hrun <;> simp only [Oper.upon]
              case value u =>
                obtain ⟨rfl, rfl⟩ := hrun
                exact next _ (Below.refl _ _)
              case skip =>
                obtain ⟨rfl, rfl⟩ := hrun
                exact next _ (Below.refl _ _)
              case enter fn args =>
                obtain ⟨rfl, hc⟩ := hrun
                exact hc.mono fun e w'' ⟨he, hw''⟩ => by subst he; exact next _ (beyond_iff.1 hw'')
            | halt x w' => simp only [Oper.quietUpon] at hrun
          | some m =>
            obtain ⟨o', ho1, hgd, hrun⟩ := hmk i m hMi
            rw [ho'] at ho1
            injection ho1 with ho1
            subst ho1
            unfold Oper.wp
            rw [hrun]
            simp only [Oper.upon]
            refine ih _ _ _ (fun k => if k = i then w.heap.size else G0 k) hs' ht' hcl' (below_then hw (below_new (Below.refl _ _) _)) ?_ fun G hG w1 h1 => ?_
            · have hk : ∀ k, k ≠ i → (listed.setIfInBounds i true).getD k false = true → listed.getD k false = true := fun k e hlk => by
                rw [listed_set (by omega), if_neg e] at hlk; exact hlk
              refine ⟨fun k m' h1 h2 => ?_, fun k m' h1 h2 => ?_, fun j k mj mk h1 h2 h3 h4 h5 => ?_⟩
              · by_cases e : k = i
                · simp only [e, if_true]; exact hw.size
                · simp only [e, if_false]; exact hL.low k m' h1 (hk k e h2)
              · by_cases e : k = i
                · subst e
                  rw [hMi] at h1
                  injection h1 with h1
                  subst h1
                  simp only [if_true]
                  exact heap_alloc_new w _
                · simp only [e, if_false]
                  exact block_below (hL.obj k m' h1 (hk k e h2)) (below_new (Below.refl _ _) _)
              · by_cases ej : j = i
                · by_cases ek : k = i
                  · rw [ej, ek]
                  · simp only [ej, ek, if_true, if_false] at h5
                    have := block_lt (hL.obj k mk h2 (hk k ek h4))
                    omega
                · by_cases ek : k = i
                  · simp only [ej, ek, if_true, if_false] at h5
                    have := block_lt (hL.obj j mj h1 (hk j ej h3))
                    omega
                  · simp only [ej, ek, if_false] at h5
                    exact hL.inj j k mj mk h1 h2 (hk j ej h3) (hk k ek h4) h5
            · have hGi : G i = w.heap.size := by
                have := hG i m hMi (by rw [listed_set (by omega), if_pos rfl])
                simpa using this
              have hG' : ∀ k m, M k = some m → listed.getD k false = true → G k = G0 k := fun k m' hk hlk => by
                by_cases e : k = i
                · subst e; rw [hnl] at hlk; cases hlk
                · have := hG k m' hk (by rw [listed_set (by omega), if_neg e]; exact hlk)
                  simpa [e] using this
              obtain ⟨v', hv1', hv2'⟩ := hq2 G hG' w1 (below_then (below_new (Below.refl _ _) _) h1)
              have e : v' = m.val w.heap.size := by
                have q := hv1' w1 (beyond_iff.2 (Below.refl _ _))
                unfold Oper.quietAt turnOp at q
                rw [hMi] at q
                have hr : ∀ (o : Oper) (v : Value) (w : World), (execOp a.eval { o with op := .move (.const v) }).run P w = .ok (.value v) w := fun _ _ _ => rfl
                rw [hr] at q
                simp only [Oper.quietUpon] at q
                rw [← q.2, ← hGi]
              rw [e, (turnOp_after M G i o).2.1] at hv2'
              exact hv2'
        · rw [if_neg hwd]
          have hMi : M i = none := by
            cases hMi : M i with
            | none => rfl
            | some m =>
              obtain ⟨o', ho1, hgd, _⟩ := hmk i m hMi
              rw [ho'] at ho1
              injection ho1 with ho1
              subst ho1
              exact absurd (by unfold Region.wanted; rw [hgd]) hwd
          simp only [hwd] at hq2
          refine ih _ _ w G0 hs' ht' hcl' hw ?_ fun G hG w1 h1 => ?_
          · have hk : ∀ k m, M k = some m → (listed.setIfInBounds i true).getD k false = true → listed.getD k false = true := fun k m hk hlk => by
              rw [listed_set (by omega)] at hlk
              by_cases e : k = i
              · subst e; rw [hMi] at hk; cases hk
              · rwa [if_neg e] at hlk
            exact ⟨fun k m h1 h2 => hL.low k m h1 (hk k m h1 h2), fun k m h1 h2 => hL.obj k m h1 (hk k m h1 h2), fun j k m m' h1 h2 h3 h4 => hL.inj j k m m' h1 h2 (hk j m h1 h3) (hk k m' h2 h4)⟩
          · have hG' : ∀ k m, M k = some m → listed.getD k false = true → G k = G0 k := fun k m hk hlk => hG k m hk (by
              rw [listed_set (by omega)]
              by_cases e : k = i
              · rw [if_pos e]
              · rw [if_neg e]; exact hlk)
            exact hq2 G hG' w1 h1
/-- A region that draws its order: a head of quiet operations and of makers, and a tail behind it. The walk: for any blocks G and any world beyond the first one, the head with the makers' values in their places. -/
theorem wp_region_free {id : Nat} {a : Act} {w0 : World} (x : Ext w0.heap.size w0) (n : Nat) (M : Nat → Option Maker) (hm : P.follows .mixedOrders = true) (hT : tailB l n = true)
    (hB : ∀ G, Region.lexB .any (turnL M G (l.take n)).toArray = true)
    (hM : ∀ k m, M k = some m → k < n)
    (hmk : ∀ k m, M k = some m → ∃ o, l[k]? = some o ∧ o.guard = none ∧ ∀ (a : Act) (w : World), (execOp a.eval o).run P w = .ok (.value (m.val w.heap.size)) (w.alloc m.obj))
    (h : ∀ G w1, Below w0.heap.size w0 w1 → wpQuiet P (turnL M G (l.take n)).toArray (fun w' => ∃ y : Ext w1.heap.size w1, w' = y.world)
      (fun a' => ∀ w', Below w0.heap.size w0 w' → (∀ k m, M k = some m → w0.heap.size ≤ G k ∧ w'.heap[G k]? = some m.obj) → (∀ j k m m', M j = some m → M k = some m' → G j = G k → j = k) → wpList P l.toArray Q (l.drop n) a' w') (turnL M G (l.take n)) a) :
    (Code.region id l.toArray true).wp P Q a x.world := by
  have ok := tail_ok hT
  have hlt := ok.lt
  refine wp_region_any hm ?_
  have hlen : ∀ G, (turnL M G (l.take n)).length = n := fun G => by simp [turnL]; omega
  have hrep : headOf (Array.replicate l.toArray.size false) n = Array.replicate n false := by
    apply Array.ext
    · simp [headOf]; omega
    · intro i h1 h2
      simp [headOf]
  have := free_run (P := P) (Q := Q) (M := M) ok (w0 := w0) hmk (Qf := fun G a' => ∀ w', Below w0.heap.size w0 w' → (∀ k m, M k = some m → w0.heap.size ≤ G k ∧ w'.heap[G k]? = some m.obj) → (∀ j k m m', M j = some m → M k = some m' → G j = G k → j = k) → wpList P l.toArray Q (l.drop n) a' w') hM
    (fun G a w hw h1 h2 hq => hq w hw h1 h2) n (Array.replicate l.toArray.size false) a x.world.drew (fun _ => 0) (by simp) (fun t h1 h2 => by simp [h2]) (fun t o ho h => by
      simp only [Array.getD_eq_getD_getElem?, Array.getElem?_replicate] at h
      split at h <;> simp at h) x.ok.drew
    ⟨fun k m _ h => by simp only [Array.getD_eq_getD_getElem?, Array.getElem?_replicate] at h; split at h <;> simp at h, fun k m _ h => by simp only [Array.getD_eq_getD_getElem?, Array.getElem?_replicate] at h; split at h <;> simp at h, fun j k m m' _ _ h => by simp only [Array.getD_eq_getD_getElem?, Array.getElem?_replicate] at h; split at h <;> simp at h⟩
    (fun G _ w1 h1 => by
      have hb := hB G
      simp only [Region.lexB, Bool.and_eq_true] at hb
      have q := wpAnyQ_lex (C := Beyond w1) (md := .any) hb.1 (turnL M G (l.take n)) 0 (Array.replicate (turnL M G (l.take n)).toArray.size false) a (by simp) (by simpa using hb.2) (h G w1 (below_then x.ok.drew h1))
      rw [hlen G] at q
      rw [hrep]
      simpa [hlen G] using q)
  rw [show n + (l.length - n) = l.toArray.size by simp; omega] at this
  exact this
/-- A maker's operation with its value in its place. -/
def made (v : Value) (o : Oper) : Oper := { o with op := .move (.const v) }
theorem turnL_one (j : Nat) (m : Maker) (G : Nat → Nat) (l : List Oper) : turnL (fun k => if k = j then some m else none) G l = l.modify j (made (m.val (G j))) := by
  apply List.ext_getElem?
  intro i
  simp only [turnL, List.getElem?_mapIdx, List.getElem?_modify]
  cases l[i]? with
  | none => simp
  | some o =>
    by_cases h : i = j
    · subst h; simp [turnOp, made]
    · simp [turnOp, h, Ne.symm h]
theorem turnL_two (j j' : Nat) (m m' : Maker) (hj : j ≠ j') (G : Nat → Nat) (l : List Oper) : turnL (fun k => if k = j then some m else if k = j' then some m' else none) G l = (l.modify j (made (m.val (G j)))).modify j' (made (m'.val (G j'))) := by
  apply List.ext_getElem?
  intro i
  simp only [turnL, List.getElem?_mapIdx, List.getElem?_modify]
  cases l[i]? with
  | none => simp
  | some o =>
    by_cases h : i = j
    · subst h
      simp [turnOp, made, Ne.symm hj]
    · by_cases h' : i = j'
      · subst h'; simp [turnOp, made, h, Ne.symm h]
      · simp [turnOp, h, h', Ne.symm h, Ne.symm h']
/-- One maker. -/
theorem wp_region_free1 {id : Nat} {a : Act} {w0 : World} (x : Ext w0.heap.size w0) (n j : Nat) (val : Nat → Value) (obj : Obj) (hm : P.follows .mixedOrders = true) (hT : tailB l n = true) (hj : j < n)
    (hB : ∀ g, Region.lexB .any ((l.take n).modify j (made (val g))).toArray = true)
    (hmk : ∃ o, l[j]? = some o ∧ o.guard = none ∧ ∀ (a : Act) (w : World), (execOp a.eval o).run P w = .ok (.value (val w.heap.size)) (w.alloc obj))
    (h : ∀ g w1, Below w0.heap.size w0 w1 → wpQuiet P ((l.take n).modify j (made (val g))).toArray (fun w' => ∃ y : Ext w1.heap.size w1, w' = y.world)
      (fun a' => ∀ w', Below w0.heap.size w0 w' → w0.heap.size ≤ g → w'.heap[g]? = some obj → wpList P l.toArray Q (l.drop n) a' w') ((l.take n).modify j (made (val g))) a) :
    (Code.region id l.toArray true).wp P Q a x.world := by
  refine wp_region_free x n (fun k => if k = j then some ⟨val, obj⟩ else none) hm hT (fun G => by rw [turnL_one]; exact hB _) ?_ ?_ fun G w1 h1 => ?_
  · intro k m hk
    split at hk
    · omega
    · cases hk
  · intro k m hk
    split at hk
    · rename_i e
      subst e
      injection hk with hk
      subst hk
      exact hmk
    · cases hk
  · rw [turnL_one]
    have q := h (G j) w1 h1
    refine wpQuiet_mono (fun a' hq w' hw' h2 h3 => ?_) _ _ q
    obtain ⟨q1, q2⟩ := h2 j _ (if_pos rfl)
    exact hq w' hw' q1 q2
/-- Two makers. -/
theorem wp_region_free2 {id : Nat} {a : Act} {w0 : World} (x : Ext w0.heap.size w0) (n j j' : Nat) (val : Nat → Value) (obj : Obj) (val' : Nat → Value) (obj' : Obj) (hm : P.follows .mixedOrders = true) (hT : tailB l n = true) (hj : j < n) (hj' : j' < n) (hne : j ≠ j')
    (hB : ∀ g g', Region.lexB .any (((l.take n).modify j (made (val g))).modify j' (made (val' g'))).toArray = true)
    (hmk : ∃ o, l[j]? = some o ∧ o.guard = none ∧ ∀ (a : Act) (w : World), (execOp a.eval o).run P w = .ok (.value (val w.heap.size)) (w.alloc obj))
    (hmk' : ∃ o, l[j']? = some o ∧ o.guard = none ∧ ∀ (a : Act) (w : World), (execOp a.eval o).run P w = .ok (.value (val' w.heap.size)) (w.alloc obj'))
    (h : ∀ g g' w1, Below w0.heap.size w0 w1 → wpQuiet P (((l.take n).modify j (made (val g))).modify j' (made (val' g'))).toArray (fun w' => ∃ y : Ext w1.heap.size w1, w' = y.world)
      (fun a' => ∀ w', Below w0.heap.size w0 w' → w0.heap.size ≤ g → w'.heap[g]? = some obj → w0.heap.size ≤ g' → w'.heap[g']? = some obj' → g ≠ g' → wpList P l.toArray Q (l.drop n) a' w') (((l.take n).modify j (made (val g))).modify j' (made (val' g'))) a) :
    (Code.region id l.toArray true).wp P Q a x.world := by
  refine wp_region_free x n (fun k => if k = j then some ⟨val, obj⟩ else if k = j' then some ⟨val', obj'⟩ else none) hm hT (fun G => by rw [turnL_two _ _ _ _ hne]; exact hB _ _) ?_ ?_ fun G w1 h1 => ?_
  · intro k m hk
    split at hk
    · omega
    · split at hk
      · omega
      · cases hk
  · intro k m hk
    split at hk
    · rename_i e
      subst e
      injection hk with hk
      subst hk
      exact hmk
    · split at hk
      · rename_i e
        subst e
        injection hk with hk
        subst hk
        exact hmk'
      · cases hk
  · rw [turnL_two _ _ _ _ hne]
    have q := h (G j) (G j') w1 h1
    refine wpQuiet_mono (fun a' hq w' hw' h2 h3 => ?_) _ _ q
    obtain ⟨q1, q2⟩ := h2 j _ (if_pos rfl)
    obtain ⟨q3, q4⟩ := h2 j' ⟨val', obj'⟩ (by rw [if_neg (Ne.symm hne), if_pos rfl])
    exact hq w' hw' q1 q2 q3 q4 fun e => hne (h3 j j' _ ⟨val', obj'⟩ (if_pos rfl) (by rw [if_neg (Ne.symm hne), if_pos rfl]) e)
end
end Go.Proofs.Ytdhgcmodlikckaa
