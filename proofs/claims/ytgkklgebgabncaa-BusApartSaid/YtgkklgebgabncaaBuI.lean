/- A bus that has not the address: Find, Store; the law BusNil. -/
import Derived.Test.YtgkklgebgabncaaBuG
namespace Go.Proofs.Ytgkklgebgabncaa
open Go.RowKit
set_option linter.unusedVariables false
set_option linter.unusedSimpArgs false
open Go.Lib Go.Sort
def noE (x : Int) : Int := if x % 4 = 0 then 10 else 11
set_option maxHeartbeats 8000000 in
set_option maxRecDepth 100000 in
theorem bfind_no (v : Value) (M : Rn) (x : Int) (w : World) (hR : RegsOf v M w) (hO : BuOk M) (x0 : 0 ≤ x) (x1 : x ≤ 4294967295) (hN : Hid (¬ (x % 4 = 0 ∧ ∃ q ∈ M, hasB q.1 x = true))) :
    Calls Try.prog 33 #[v, .int .u32 x] w fun e w' => e = .returned (.tuple #[.agg #[.int .u32 0, .int .u32 0], .int .u32 0, .int .i64 (noE x)]) ∧ Below w.heap.size w w' := by
  refine (find_gen v M x w hR hO x0 x1).mono ?_
  rintro e w' ⟨p1, p2, off, code, rfl, hF, hb⟩
  refine ⟨?_, hb⟩
  rcases hF with ⟨h, hp, rfl, rfl⟩ | ⟨h, _, hp, rfl, rfl⟩ | ⟨h, hq, hh, _⟩
  · injection hp with e1 e2
    rw [e1, e2]; unfold noE; rw [if_neg h]
  · injection hp with e1 e2
    rw [e1, e2]; unfold noE; rw [if_pos h]
  · obtain ⟨q, hq, e⟩ := hq
    exact absurd ⟨h, q, hq, by rw [e]; exact hh⟩ hN.out
set_option maxHeartbeats 8000000 in
set_option maxRecDepth 100000 in
theorem bstore_no (v : Value) (M : Rn) (x u : Int) (w : World) (hR : RegsOf v M w) (hO : BuOk M) (x0 : 0 ≤ x) (x1 : x ≤ 4294967295) (hN : Hid (¬ (x % 4 = 0 ∧ ∃ q ∈ M, hasB q.1 x = true))) :
    Calls Try.prog 35 #[v, .int .u32 x, .int .u32 u] w fun e w' => e = .returned (.int .i64 (noE x)) ∧ Below w.heap.size w w' := by
  obtain ⟨E, hE⟩ : ∃ E, noE x = E := ⟨_, rfl⟩
  have E0 : (E == 0) = false := by rw [← hE]; unfold noE; split <;> rfl
  have HR := Lib.hid hR
  rw [hE]
  clear hR
  go_enter Try.func35, Try.ntmps35
  go_upto_region 2 with (go_at_call 33; refine (bfind_no v M x _ HR.out hO x0 x1 hN).mono ?_; rintro e w1 ⟨rfl, hb1⟩; rw [hE])
  go_wp2_with fail
  go_ret
  refine ⟨rfl, ?_⟩
  repeat (first | exact hb1 | exact Below.refl _ _ | refine below_then ?_ hb1 | refine below_new ?_ _ | refine below_set ?_ (by simp) _)
set_option maxHeartbeats 8000000 in
set_option maxRecDepth 100000 in
theorem BusNil_walk (x v : Int) (W : World) (x0 : 0 ≤ x) (x1 : x ≤ 4294967295) (v0 : 0 ≤ v) (v1 : v ≤ 4294967295) :
    Calls Try.prog 7 #[.int .u32 x, .int .u32 v] W fun e w' => e = .returned (.bool true) ∧ Below W.heap.size W w' := by
  have hN : ¬ (x % 4 = 0 ∧ ∃ q ∈ ([] : Rn), hasB q.1 x = true) := by rintro ⟨_, q, hq, _⟩; simp at hq
  have key : ∃ E : Int, (if x % 4 = 0 then (10 : Int) else 11) = E ∧ ((x % 4 = 0 ∧ E = 10) ∨ (¬ x % 4 = 0 ∧ E = 11)) := by
    by_cases h : x % 4 = 0
    · exact ⟨10, by rw [if_pos h], Or.inl ⟨h, rfl⟩⟩
    · exact ⟨11, by rw [if_neg h], Or.inr ⟨h, rfl⟩⟩
  obtain ⟨E, q1, key⟩ := key
  have q2 : noE x = E := q1
  rcases key with ⟨h, rfl⟩ | ⟨h, rfl⟩
  all_goals
    first | have d := dec_t h | have d := dec_f h
    go_enter Try.func7, Try.ntmps7
    go_upto_region 6 with (go_at_call 33; refine (bfind_no (.pointer none) [] x _ (regsOf_nil _) BuOk.nil x0 x1 (Lib.hid hN)).mono ?_; rintro e w1 ⟨rfl, hb1⟩; rw [q2])
    refine wp_name (Pr := fun W2 => Below W.heap.size W W2) (below_new hb1 _) ?_
    clear hb1
    rintro W2 hB
    refine wp_start (w := W2) ?_
    intro y
    go_wp2_with (first | (go_at_call 25; refine (known03 _).mono ?_; rintro e wr ⟨rfl, hbr⟩; obtain ⟨y, rfl⟩ := Ext.step _ hbr; clear hbr) | (go_at_call 34; refine (bload_no (.pointer none) [] x _ (regsOf_nil _) BuOk.nil x0 x1 (Lib.hid hN)).mono ?_; rintro e wr ⟨rfl, hbr⟩; rw [q1]; obtain ⟨y, rfl⟩ := Ext.step _ hbr; clear hbr) | (go_at_call 35; refine (bstore_no (.pointer none) [] x v _ (regsOf_nil _) BuOk.nil x0 x1 (Lib.hid hN)).mono ?_; rintro e wr ⟨rfl, hbr⟩; rw [q2]; obtain ⟨y, rfl⟩ := Ext.step _ hbr; clear hbr) | (go_at_call 10; refine (rnew_any _).mono ?_; rintro e wr ⟨f, fm, rfl, _, _, _, hbr⟩; obtain ⟨y, rfl⟩ := Ext.step _ hbr; clear hbr) | (go_at_call 32; refine (regs_nil _).mono ?_; rintro e wr ⟨rfl, hbr⟩; obtain ⟨y, rfl⟩ := Ext.step _ hbr; clear hbr) | (go_at_call 31; refine (attach_nil _ _ _ _).mono ?_; rintro e wr ⟨rfl, hbr⟩; obtain ⟨y, rfl⟩ := Ext.step _ hbr; clear hbr))
    go_ret
    exact ⟨rfl, below_then hB (Ext.ok _)⟩
end Go.Proofs.Ytgkklgebgabncaa
