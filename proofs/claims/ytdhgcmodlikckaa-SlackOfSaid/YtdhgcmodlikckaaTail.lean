/- A region that draws its order: a head that only reads and makes memory, and a tail of writes behind it: one walk serves every order. -/
import Derived.Test.YtdhgcmodlikckaaW0
namespace Go.Proofs.Ytdhgcmodlikckaa
open Go.RowKit
set_option linter.unusedVariables false
set_option linter.unusedSimpArgs false

/-- Does operation t wait for operation i? -/
def waitsB (l : List Oper) (t i : Nat) : Bool :=
  match l[t]? with
  | some o => o.after.any fun e => Region.binds .any e && e.on == i
  | none => false
/-- What is to be looked at: each operation ahead of operation n is waited for by a later one up to n (so that n waits for all), each one behind n waits for the one ahead; nobody waits for a later one; no guard of the head stands in the tail. -/
def tailB (l : List Oper) (n : Nat) : Bool :=
  decide (n < l.length) && (List.range n).all (fun i => (List.range (n + 1)).any fun j => decide (i < j) && waitsB l j i) && (List.range l.length).all (fun t => decide (t ≤ n) || waitsB l t (t - 1)) &&
  (List.range l.length).all (fun t => match l[t]? with | some o => o.after.all (fun e => !Region.binds .any e || decide (e.on < t)) | none => true) &&
  (List.range n).all (fun t => match l[t]? with | some o => (match o.guard with | some (j, _) => decide (j < n) | none => true) | none => true)
structure TailOk (l : List Oper) (n : Nat) : Prop where
  lt : n < l.length
  sink : ∀ i, i < n → ∃ j, i < j ∧ j ≤ n ∧ waitsB l j i = true
  chain : ∀ t, n < t → t < l.length → waitsB l t (t - 1) = true
  low : ∀ t o, l[t]? = some o → ∀ e ∈ o.after, Region.binds .any e = true → e.on < t
  guard : ∀ t o j b, t < n → l[t]? = some o → o.guard = some (j, b) → j < n
theorem tail_ok {l : List Oper} {n : Nat} (h : tailB l n = true) : TailOk l n := by
  unfold tailB at h
  simp only [Bool.and_eq_true, decide_eq_true_eq, List.all_eq_true, List.mem_range] at h
  obtain ⟨⟨⟨⟨h1, h2⟩, h3⟩, h4⟩, h5⟩ := h
  refine ⟨h1, fun i hi => ?_, fun t ht htl => ?_, fun t o ho e he hb => ?_, fun t o j b ht ho hg => ?_⟩
  · have := h2 i hi
    simp only [List.any_eq_true, List.mem_range, Bool.and_eq_true, decide_eq_true_eq] at this
    obtain ⟨j, hj, hij, hw⟩ := this
    exact ⟨j, hij, by omega, hw⟩
  · have := h3 t htl
    simp only [Bool.or_eq_true, decide_eq_true_eq] at this
    rcases this with h | h
    · omega
    · exact h
  · have hlt : t < l.length := by
      rcases Nat.lt_or_ge t l.length with h | h
      · exact h
      · rw [List.getElem?_eq_none h] at ho; cases ho
    have := h4 t hlt
    rw [ho] at this
    have h6 := Array.all_eq_true'.1 this e he
    rw [hb] at h6
    simpa using h6
  · have := h5 t ht
    rw [ho] at this
    simp only [hg] at this
    simpa using this
theorem waits_edge {l : List Oper} {t i : Nat} (h : waitsB l t i = true) {o : Oper} (ho : l[t]? = some o) : ∃ e ∈ o.after, Region.binds .any e = true ∧ e.on = i := by
  unfold waitsB at h
  rw [ho] at h
  obtain ⟨e, he, hb⟩ := Array.any_eq_true'.1 h
  simp only [Bool.and_eq_true, beq_iff_eq] at hb
  exact ⟨e, he, hb.1, hb.2⟩

/-- Of the marks: those up to k are set, the others aren't. -/
def Upto (listed : Array Bool) (k m : Nat) : Prop := listed.size = m ∧ (∀ i, i < k → listed.getD i false = true) ∧ ∀ t, k ≤ t → t < m → listed.getD t true = false
theorem getD_in_range {listed : Array Bool} {i : Nat} (h : i < listed.size) (a b : Bool) : listed.getD i a = listed.getD i b := by simp [h]
theorem Upto.step {listed : Array Bool} {k m : Nat} (h : Upto listed k m) (hk : k < m) : Upto (listed.setIfInBounds k true) (k + 1) m := by
  obtain ⟨h1, h2, h3⟩ := h
  refine ⟨by simp [h1], fun i hi => ?_, fun t ht htm => ?_⟩
  · by_cases hik : k = i
    · subst hik; simp [h1, hk]
    · have := h2 i (by omega)
      simp only [Array.getD_eq_getD_getElem?, Array.getElem?_setIfInBounds_ne hik] at this ⊢
      exact this
  · have := h3 t (by omega) htm
    simp only [Array.getD_eq_getD_getElem?, Array.getElem?_setIfInBounds_ne (show k ≠ t by omega)] at this ⊢
    exact this
section
variable {P : Program} {l : List Oper} {n : Nat} {Q : Exit → Act → World → Prop} {C : World → Prop}
theorem upto_ready (ok : TailOk l n) {listed : Array Bool} {k : Nat} (hu : Upto listed k l.length) (hn : n ≤ k) (hk : k < l.length) : ∀ i, i ∈ Region.ready .any l.toArray listed → i = k := by
  intro i hi
  obtain ⟨h1, o, ho, h2⟩ := mem_ready.1 hi
  have ho' : l[i]? = some o := by simpa using ho
  have hil : i < l.length := by
    rcases Nat.lt_or_ge i l.length with h | h
    · exact h
    · rw [List.getElem?_eq_none h] at ho'; cases ho'
  obtain ⟨u1, u2, u3⟩ := hu
  rcases Nat.lt_trichotomy i k with h | h | h
  · have := u2 i h
    rw [getD_in_range (by omega) false true, h1] at this
    cases this
  · exact h
  · obtain ⟨e, he, hb, hon⟩ := waits_edge (ok.chain i (by omega) hil) ho'
    have := h2 e he hb
    rw [hon, getD_in_range (by omega) false true, u3 (i - 1) (by omega) (by omega)] at this
    cases this
theorem tail_run (ok : TailOk l n) : ∀ (r k fuel : Nat) (listed : Array Bool) (a : Act) (w : World), r = l.length - k → n ≤ k → k ≤ l.length → r ≤ fuel → Upto listed k l.length → wpList P l.toArray Q (l.drop k) a w → wpAny P .any l.toArray Q fuel listed a w := by
  intro r
  induction r with
  | zero =>
    intro k fuel listed a w hr hn hk hf hu h
    obtain rfl : k = l.length := by omega
    rw [List.drop_length] at h
    have hempty : Region.ready .any l.toArray listed = [] := by
      apply List.eq_nil_iff_forall_not_mem.2
      intro i hi
      obtain ⟨h1, o, ho, _⟩ := mem_ready.1 hi
      have ho' : l[i]? = some o := by simpa using ho
      have hil : i < l.length := by
        rcases Nat.lt_or_ge i l.length with h | h
        · exact h
        · rw [List.getElem?_eq_none h] at ho'; cases ho'
      have := hu.2.1 i hil
      rw [getD_in_range (by rw [hu.1]; exact hil) false true, h1] at this
      cases this
    cases fuel with
    | zero => exact ⟨hempty, h⟩
    | succ f => exact ⟨fun _ => h, fun i hi => by rw [hempty] at hi; cases hi⟩
  | succ r ih =>
    intro k fuel listed a w hr hn hk hf hu h
    have hkl : k < l.length := by omega
    obtain ⟨f, rfl⟩ : ∃ f, fuel = f + 1 := ⟨fuel - 1, by omega⟩
    have h0 : l.toArray[k]? = some l[k] := by simp [hkl]
    rw [List.drop_eq_getElem_cons hkl] at h
    have hw : wpOp P l.toArray Q k (wpList P l.toArray Q (l.drop (k + 1))) a w := by unfold wpOp; simp only [h0]; exact h
    have hstep := hu.step hkl
    refine ⟨fun he => ?_, fun i hi => ?_⟩
    · have hmem : k ∈ Region.ready .any l.toArray listed := mem_ready.2 ⟨hu.2.2 k (Nat.le_refl _) hkl, l[k], h0, fun e he hb => hu.2.1 _ (ok.low k _ (by simp [hkl]) e he hb)⟩
      rw [he] at hmem; cases hmem
    · obtain rfl := upto_ready ok hu hn hkl i hi
      exact wpOp_mono (fun a' w' h' => ih (i + 1) f _ a' w' (by omega) (by omega) (by omega) (by omega) hstep h') hw
/-- The marks of the head alone. -/
def headOf (listed : Array Bool) (n : Nat) : Array Bool := listed.extract 0 n
theorem headOf_getD {listed : Array Bool} {n i : Nat} (d : Bool) (hn : n ≤ listed.size) (hi : i < n) : (headOf listed n).getD i d = listed.getD i d := by
  have h2 : i < listed.size := by omega
  simp [headOf, Array.getD_eq_getD_getElem?, Array.getElem?_extract, hi, hn, h2]
theorem headOf_set {listed : Array Bool} {n i : Nat} (hi : i < n) : headOf (listed.setIfInBounds i true) n = (headOf listed n).setIfInBounds i true := by
  unfold headOf
  apply Array.ext_getElem?
  intro j
  by_cases hij : i = j
  · subst hij
    by_cases h2 : i < listed.size
    · simp [Array.getElem?_extract, Array.getElem?_setIfInBounds, hi, h2]
    · have h3 : min n listed.size ≤ i := by omega
      simp [Array.getElem?_extract, Array.getElem?_setIfInBounds, hi, h2, h3]
  · simp [Array.getElem?_extract, Array.getElem?_setIfInBounds_ne hij]
theorem take_get {l : List Oper} {n i : Nat} (hi : i < n) : (l.take n).toArray[i]? = l.toArray[i]? := by simp [List.getElem?_take, hi]
theorem wanted_head (ok : TailOk l n) {i : Nat} {o : Oper} (hi : i < n) (ho : l[i]? = some o) (a : Act) : Region.wanted o (yielded (l.take n).toArray a.tmps) = Region.wanted o (yielded l.toArray a.tmps) := by
  unfold Region.wanted
  cases hg : o.guard with
  | none => rfl
  | some p =>
    obtain ⟨j, b⟩ := p
    have hj := ok.guard i o j b hi ho hg
    simp only [yielded, take_get hj]
/-- What is marked has all marked that it waits for. -/
def Closed (l : List Oper) (listed : Array Bool) : Prop := ∀ t o, l[t]? = some o → listed.getD t false = true → ∀ e ∈ o.after, Region.binds .any e = true → listed.getD e.on false = true
theorem Closed.step {listed : Array Bool} {i : Nat} (h : Closed l listed) {o : Oper} (ho : l[i]? = some o) (h2 : ∀ e ∈ o.after, Region.binds .any e = true → listed.getD e.on false = true) : Closed l (listed.setIfInBounds i true) := by
  have up : ∀ j, listed.getD j false = true → (listed.setIfInBounds i true).getD j false = true := by
    intro j hj
    by_cases e : i = j
    · subst e
      simp only [Array.getD_eq_getD_getElem?, Array.getElem?_setIfInBounds] at hj ⊢
      by_cases q : i < listed.size <;> simp_all
    · simp only [Array.getD_eq_getD_getElem?, Array.getElem?_setIfInBounds_ne e] at hj ⊢
      exact hj
  intro t o' ho' ht e he hb
  apply up
  by_cases q : i = t
  · subst q
    rw [ho] at ho'
    injection ho' with ho'
    subst ho'
    exact h2 e he hb
  · have ht2 : listed.getD t false = true := by
      simp only [Array.getD_eq_getD_getElem?, Array.getElem?_setIfInBounds_ne q] at ht ⊢
      exact ht
    exact h t o' ho' ht2 e he hb
theorem head_run (ok : TailOk l n) {Qh : Act → Prop} (hQ : ∀ a w, C w → Qh a → wpList P l.toArray Q (l.drop n) a w) :
    ∀ (f : Nat) (listed : Array Bool) (a : Act) (w : World), listed.size = l.length → (∀ t, n ≤ t → t < l.length → listed.getD t true = false) → Closed l listed → C w →
      wpAnyQ P .any (l.take n).toArray C Qh f (headOf listed n) a → wpAny P .any l.toArray Q (f + (l.length - n)) listed a w := by
  intro f
  induction f with
  | zero =>
    intro listed a w hs ht hcl hw h
    have hall : ∀ i, i < n → listed.getD i false = true := fun i => by
      induction i using Nat.strongRecOn with
      | _ i ih =>
      intro hi
      have hlt := ok.lt
      cases hc : listed.getD i false with
      | true => rfl
      | false =>
        have hmem : i ∈ Region.ready .any (l.take n).toArray (headOf listed n) := mem_ready.2 ⟨by
            rw [headOf_getD true (by omega) hi, getD_in_range (by omega) true false]; exact hc, l[i], by rw [take_get hi]; simp, fun e he hb => by
            have := ok.low i _ (List.getElem?_eq_getElem (by omega)) e he hb
            rw [headOf_getD false (by omega) (by omega)]
            exact ih e.on this (by omega)⟩
        rw [h.1] at hmem; cases hmem
    exact tail_run ok _ n _ listed a w rfl (Nat.le_refl _) (Nat.le_of_lt ok.lt) (by omega) ⟨hs, hall, ht⟩ (hQ a w hw h.2)
  | succ f ih =>
    intro listed a w hs ht hcl hw h
    have hlt := ok.lt
    by_cases hall : ∀ i, i < n → listed.getD i false = true
    · have hempty : Region.ready .any (l.take n).toArray (headOf listed n) = [] := by
        apply List.eq_nil_iff_forall_not_mem.2
        intro i hi
        obtain ⟨h1, o, ho, _⟩ := mem_ready.1 hi
        have hin : i < n := by
          rcases Nat.lt_or_ge i n with h | h
          · exact h
          · simp [List.getElem?_take, Nat.not_lt.2 h] at ho
        rw [headOf_getD true (by omega) hin, getD_in_range (by omega) true false, hall i hin] at h1
        cases h1
      exact tail_run ok _ n _ listed a w rfl (Nat.le_refl _) (Nat.le_of_lt ok.lt) (by omega) ⟨hs, hall, ht⟩ (hQ a w hw (h.1 hempty))
    · have hready : ∀ i, i ∈ Region.ready .any l.toArray listed → i < n ∧ i ∈ Region.ready .any (l.take n).toArray (headOf listed n) := fun i hi => by
        obtain ⟨h1, o, ho, h2⟩ := mem_ready.1 hi
        have ho' : l[i]? = some o := by simpa using ho
        have hil : i < l.length := by
          rcases Nat.lt_or_ge i l.length with h | h
          · exact h
          · rw [List.getElem?_eq_none h] at ho'; cases ho'
        have hin : i < n := by
          rcases Nat.lt_trichotomy i n with h | h | h
          · exact h
          · exfalso
            subst h
            apply hall
            have hdown : ∀ (d q : Nat), i - q = d → q < i → listed.getD q false = true := by
              intro d
              induction d using Nat.strongRecOn with
              | _ d ihd =>
              intro q hqd hq
              obtain ⟨j, hqj, hji, hwj⟩ := ok.sink q hq
              rcases Nat.lt_or_ge j i with hj | hj
              · have hlj := ihd (i - j) (by omega) j rfl hj
                obtain ⟨e, he, hb, hon⟩ := waits_edge hwj (List.getElem?_eq_getElem (show j < l.length by omega))
                rw [← hon]
                exact hcl j _ (List.getElem?_eq_getElem (show j < l.length by omega)) hlj e he hb
              · obtain rfl : j = i := by omega
                obtain ⟨e, he, hb, hon⟩ := waits_edge hwj ho'
                rw [← hon]; exact h2 e he hb
            exact fun q hq => hdown _ q rfl hq
          · exfalso
            obtain ⟨e, he, hb, hon⟩ := waits_edge (ok.chain i h hil) ho'
            have := h2 e he hb
            rw [hon, getD_in_range (by omega) false true, ht (i - 1) (by omega) (by omega)] at this
            cases this
        refine ⟨hin, mem_ready.2 ⟨by rw [headOf_getD true (by omega) hin]; exact h1, o, by rw [take_get hin]; exact ho, fun e he hb => ?_⟩⟩
        have := ok.low i o ho' e he hb
        rw [headOf_getD false (by omega) (by omega)]
        exact h2 e he hb
      rw [show f + 1 + (l.length - n) = (f + (l.length - n)) + 1 by omega]
      refine ⟨fun he => ?_, fun i hi => ?_⟩
      · exfalso
        apply hall
        intro i
        induction i using Nat.strongRecOn with
        | _ i ih2 =>
        intro hi
        cases hc : listed.getD i false with
        | true => rfl
        | false =>
          have hmem : i ∈ Region.ready .any l.toArray listed := mem_ready.2 ⟨by
              rw [getD_in_range (by omega) true false]; exact hc, l[i], by simp, fun e he hb => by
              have := ok.low i _ (List.getElem?_eq_getElem (by omega)) e he hb
              exact ih2 e.on this (by omega)⟩
          rw [he] at hmem; cases hmem
      · obtain ⟨hin, hmem⟩ := hready i hi
        have hq := h.2 i hmem
        have hq' : qOp P l.toArray C i (wpAnyQ P .any (l.take n).toArray C Qh f ((headOf listed n).setIfInBounds i true)) a := by
          unfold qOp at hq ⊢
          rw [take_get hin] at hq
          obtain ⟨_, o, ho, _⟩ := mem_ready.1 hi
          simp only [ho] at hq ⊢
          rw [wanted_head ok hin (by simpa using ho)] at hq
          exact hq
        refine wpOp_of_qOp hw (fun a' w' hw' h' => ?_) hq'
        rw [← headOf_set hin] at h'
        refine ih _ a' w' (by simp [hs]) (fun t h1 h2 => ?_) (by obtain ⟨_, o, ho, ho2⟩ := mem_ready.1 hi; exact hcl.step (by simpa using ho) ho2) hw' h'
        have := ht t h1 h2
        simp only [Array.getD_eq_getD_getElem?, Array.getElem?_setIfInBounds_ne (show i ≠ t by omega)] at this ⊢
        exact this
/-- The head is walked once, in the order of the text, in every world of the class; behind it the tail, from any such world. -/
theorem wp_region_tail {id : Nat} {a : Act} {w : World} (n : Nat) (hm : P.follows .mixedOrders = true) (hT : tailB l n = true) (hB : Region.lexB .any (l.take n).toArray = true) (hC : C w.drew)
    (h : wpQuiet P (l.take n).toArray C (fun a' => ∀ w', C w' → wpList P l.toArray Q (l.drop n) a' w') (l.take n) a) : (Code.region id l.toArray true).wp P Q a w := by
  have ok := tail_ok hT
  simp only [Region.lexB, Bool.and_eq_true] at hB
  refine wp_region_any hm ?_
  have hlen : (l.take n).length = n := by simp; have := ok.lt; omega
  have hA := wpAnyQ_lex (C := C) (md := .any) hB.1 (l.take n) 0 (Array.replicate (l.take n).toArray.size false) a (by simp) (by simpa using hB.2) h
  have hrep : headOf (Array.replicate l.toArray.size false) n = Array.replicate (l.take n).toArray.size false := by
    have := ok.lt
    apply Array.ext
    · simp [headOf]
    · intro i h1 h2
      simp [headOf]
  have := head_run (P := P) (Q := Q) (C := C) (Qh := fun a' => ∀ w', C w' → wpList P l.toArray Q (l.drop n) a' w') ok (fun a w hw hq => hq w hw) n (Array.replicate l.toArray.size false) a w.drew (by simp) (fun t h1 h2 => by simp [h2]) (fun t o ho h => by
    simp only [Array.getD_eq_getD_getElem?, Array.getElem?_replicate] at h
    split at h <;> simp at h) hC (by rw [hrep]; rw [hlen] at hA; exact hA)
  rw [show l.toArray.size = n + (l.length - n) by have := ok.lt; simp; omega]
  rw [show n + (l.length - n) = l.toArray.size by have := ok.lt; simp; omega]
  rw [show n + (l.length - n) = l.toArray.size by have := ok.lt; simp; omega] at this
  exact this
end
/-- At the class of the worlds in which all below a block lies as it lay. -/
theorem wp_region_ext_tail {w : World} {P : Program} {id : Nat} {Q : Exit → Act → World → Prop} {a : Act} (x : Ext w.heap.size w) {l : List Oper} (n : Nat) (hm : P.follows .mixedOrders = true) (hT : tailB l n = true) (hB : Region.lexB .any (l.take n).toArray = true)
    (h : wpQuiet P (l.take n).toArray (fun w' => ∃ y : Ext w.heap.size w, w' = y.world) (fun a' => ∀ w', (∃ y : Ext w.heap.size w, w' = y.world) → wpList P l.toArray Q (l.drop n) a' w') (l.take n) a) : (Code.region id l.toArray true).wp P Q a x.world :=
  wp_region_tail (C := fun w' => ∃ y : Ext w.heap.size w, w' = y.world) n hm hT hB ⟨⟨x.world.drew, x.ok.drew⟩, rfl⟩ h
end Go.Proofs.Ytdhgcmodlikckaa
