/- The document's clock: what each call comes to. -/
import Derived.Test.YtdhgcmodlikckaaRtcC
namespace Go.Proofs.Ytdhgcmodlikckaa
open Go.RowKit
set_option linter.unusedVariables false
set_option linter.unusedSimpArgs false

theorem wp_name {P : Program} {c : Code} {Q : Exit → Act → World → Prop} {a : Act} {W : World} {Pr : World → Prop} (h : Pr W) (k : ∀ W', Pr W' → c.wp P Q a W') : c.wp P Q a W := k W h
theorem calls_name {P : Program} {f : FuncId} {args : Array Value} {R : Ending → World → Prop} {W : World} {Pr : World → Prop} (h : Pr W) (k : ∀ W', Pr W' → Calls P f args W' R) : Calls P f args W R := k W h
def St.rv (s : St) : Value := .agg #[.int .u32 s.div, .int .u32 s.rest, .int .u32 s.set, .int .u64 s.sec, .int .u32 (s.alarm % 4294967296), .int .u32 (s.alarm / 4294967296), .bool s.en, .bool s.ra]
theorem calls_box3 {w : World} {P : Program} {f : FuncId} {args : Array Value} {R : Ending → World → Prop} {o o2 o3 : Obj}
    (h : ∀ W : World, Below w.heap.size w W → W.heap[w.heap.size]? = some o → W.heap[w.heap.size + 1]? = some o2 → W.heap[w.heap.size + 2]? = some o3 → w.heap.size + 2 < W.heap.size → Calls P f args W R) : Calls P f args (((w.alloc o).alloc o2).alloc o3) R :=
  h _ (below_new (below_new (below_new (Below.refl _ _) _) _) _) ((Below.heap_alloc _ _ _ (by simp; omega)).trans ((Below.heap_alloc _ _ _ (by simp)).trans (heap_alloc_new w o)))
    ((Below.heap_alloc _ _ _ (by simp)).trans (by have := heap_alloc_new (w.alloc o) o2; simpa using this)) (by have := heap_alloc_new ((w.alloc o).alloc o2) o3; simpa using this) (by simp)
theorem join_parts (a : Int) : a / 4294967296 * 4294967296 + a % 4294967296 = a := by omega
set_option maxHeartbeats 4000000 in
set_option maxRecDepth 100000 in
theorem ralarm_any (s : St) (ok : s.ok) (w : World) : Calls Try.prog 51 #[.agg #[.int .u32 s.div, .int .u32 s.rest, .int .u32 s.set, .int .u64 s.sec, .int .u32 (s.alarm % 4294967296), .int .u32 (s.alarm / 4294967296), .bool s.en, .bool s.ra]] w fun e w' => e = .returned (.int .u64 s.alarm) ∧ Below w.heap.size w w' := by
  obtain ⟨s0, s1, a0, a1, r0, r1, t0, t1, d1⟩ := ok
  have h0 : 0 ≤ s.alarm / 4294967296 := by omega
  have h1 : s.alarm / 4294967296 ≤ 4294967295 := by omega
  have l0 : 0 ≤ s.alarm % 4294967296 := by omega
  have l1 : s.alarm % 4294967296 ≤ 4294967295 := by omega
  go_enter Try.func51, Try.ntmps51
  go_wp2_with fail
  refine (rjoin_any _ _ _ h0 h1 l0 l1).mono ?_
  rintro e w1 ⟨rfl, hb1⟩
  go_wp2_with fail
  go_ret
  exact ⟨ret_int (join_parts s.alarm), below_then (below_new (Below.refl _ _) _) hb1⟩
set_option maxHeartbeats 4000000 in
set_option maxRecDepth 100000 in
theorem rmet_any (s : St) (ok : s.ok) (w : World) : Calls Try.prog 52 #[.agg #[.int .u32 s.div, .int .u32 s.rest, .int .u32 s.set, .int .u64 s.sec, .int .u32 (s.alarm % 4294967296), .int .u32 (s.alarm / 4294967296), .bool s.en, .bool s.ra]] w fun e w' => e = .returned (.bool s.metB) ∧ Below w.heap.size w w' := by
  have HA := Lib.hid (fun w => ralarm_any s ok w)
  rcases Bool.eq_false_or_eq_true s.en with he | he
  · rw [he] at HA
    have e1 : s.metB = decide (s.alarm ≤ s.sec) := by rw [St.metB, he]; rfl
    rw [e1, he]
    clear e1 he
    go_enter Try.func52, Try.ntmps52
    go_wp2_with fail
    refine wp_box ?_
    intro W hB b0 hW
    obtain ⟨hk, hf⟩ := Ext.cells b0
    refine wp_start (w := W) ?_
    intro x
    refine wp_region_ext _ (by kernel_rfl) (by kernel_rfl) ?_
    repeat (go_big_quiet_step ((go_at_call 51; exact Ext.call (HA.out _))))
    refine wpQuiet_nil ?_
    rintro _ ⟨y, rfl⟩
    go_wp2_with fail
    go_ret
    exact ⟨rfl, below_then hB y.ok⟩
  · have e1 : s.metB = false := by rw [St.metB, he]; rfl
    rw [e1, he]
    clear e1 he
    go_enter Try.func52, Try.ntmps52
    go_wp2_with fail
    refine wp_box ?_
    intro W hB b0 hW
    obtain ⟨hk, hf⟩ := Ext.cells b0
    refine wp_start (w := W) ?_
    intro x
    refine wp_region_ext _ (by kernel_rfl) (by kernel_rfl) ?_
    repeat (go_big_quiet_step (fail))
    refine wpQuiet_nil ?_
    rintro _ ⟨y, rfl⟩
    go_wp2_with fail
    go_ret
    exact ⟨rfl, below_then hB y.ok⟩
set_option maxHeartbeats 4000000 in
set_option maxRecDepth 100000 in
theorem behind_any (s s1 : St) (ok : s.ok) (ok1 : s1.ok) (w : World) : Calls Try.prog 61 #[.agg #[.int .u32 s.div, .int .u32 s.rest, .int .u32 s.set, .int .u64 s.sec, .int .u32 (s.alarm % 4294967296), .int .u32 (s.alarm / 4294967296), .bool s.en, .bool s.ra], .agg #[.int .u32 s1.div, .int .u32 s1.rest, .int .u32 s1.set, .int .u64 s1.sec, .int .u32 (s1.alarm % 4294967296), .int .u32 (s1.alarm / 4294967296), .bool s1.en, .bool s1.ra]] w fun e w' => e = .returned (s.raise s1).rv ∧ Below w.heap.size w w' := by
  have HM := Lib.hid (fun w => rmet_any s ok w)
  have HM1 := Lib.hid (fun w => rmet_any s1 ok1 w)
  clear ok ok1
  rcases Bool.eq_false_or_eq_true s1.metB with hm1 | hm1
  · rcases Bool.eq_false_or_eq_true s.metB with hm | hm
    · have e1 : s.raise s1 = s1 := by rw [St.raise, if_neg (by rw [hm]; simp)]
      rw [e1]
      rw [hm] at HM
      rw [hm1] at HM1
      clear hm1 e1 hm
      go_enter Try.func61, Try.ntmps61
      go_wp2_with fail
      refine calls_box3 ?_
      intro W hB b0 b1 b2 hW
      obtain ⟨hk0, hf0⟩ := Ext.cells b0
      obtain ⟨hk1, hf1⟩ := Ext.cells b1
      obtain ⟨hk2, hf2⟩ := Ext.cells b2
      refine (HM1.out _).mono ?_
      rintro e w1 ⟨rfl, hb1⟩
      obtain ⟨x, rfl⟩ := Ext.of hb1
      clear hb1
      go_wp2_with (first | (go_at_call 52; refine (HM.out _).mono ?_; rintro e wr ⟨rfl, hbr⟩; obtain ⟨y, rfl⟩ := Ext.step _ hbr; clear hbr))
      refine bodyPost_ret (v := .agg #[.int .u32 s1.div, .int .u32 s1.rest, .int .u32 s1.set, .int .u64 s1.sec, .int .u32 (s1.alarm % 4294967296), .int .u32 (s1.alarm / 4294967296), .bool s1.en, .bool s1.ra]) (by simp [results, Try.results61, go_sem, hk1, hk2]) rfl ⟨rfl, ?_⟩
      repeat (refine below_set ?_ (by dsimp only; omega) _)
      exact below_then hB (Ext.ok _)
    · have e1 : s.raise s1 = { s1 with ra := true } := by rw [St.raise, if_pos ⟨hm1, hm⟩]
      rw [e1]
      rw [hm] at HM
      rw [hm1] at HM1
      clear hm1 e1 hm
      go_enter Try.func61, Try.ntmps61
      go_wp2_with fail
      refine calls_box3 ?_
      intro W hB b0 b1 b2 hW
      obtain ⟨hk0, hf0⟩ := Ext.cells b0
      obtain ⟨hk1, hf1⟩ := Ext.cells b1
      obtain ⟨hk2, hf2⟩ := Ext.cells b2
      refine (HM1.out _).mono ?_
      rintro e w1 ⟨rfl, hb1⟩
      obtain ⟨x, rfl⟩ := Ext.of hb1
      clear hb1
      go_wp2_with (first | (go_at_call 52; refine (HM.out _).mono ?_; rintro e wr ⟨rfl, hbr⟩; obtain ⟨y, rfl⟩ := Ext.step _ hbr; clear hbr))
      refine bodyPost_ret (v := .agg #[.int .u32 s1.div, .int .u32 s1.rest, .int .u32 s1.set, .int .u64 s1.sec, .int .u32 (s1.alarm % 4294967296), .int .u32 (s1.alarm / 4294967296), .bool s1.en, .bool true]) (by simp [results, Try.results61, go_sem, hk1, hk2]) rfl ⟨rfl, ?_⟩
      repeat (refine below_set ?_ (by dsimp only; omega) _)
      exact below_then hB (Ext.ok _)
  · have e1 : s.raise s1 = s1 := by rw [St.raise, if_neg (by rw [hm1]; simp)]
    rw [e1]
    rw [hm1] at HM1
    clear hm1 e1
    go_enter Try.func61, Try.ntmps61
    go_wp2_with fail
    refine calls_box3 ?_
    intro W hB b0 b1 b2 hW
    obtain ⟨hk0, hf0⟩ := Ext.cells b0
    obtain ⟨hk1, hf1⟩ := Ext.cells b1
    obtain ⟨hk2, hf2⟩ := Ext.cells b2
    refine (HM1.out _).mono ?_
    rintro e w1 ⟨rfl, hb1⟩
    obtain ⟨x, rfl⟩ := Ext.of hb1
    clear hb1
    go_wp2_with (first | (go_at_call 52; refine (HM.out _).mono ?_; rintro e wr ⟨rfl, hbr⟩; obtain ⟨y, rfl⟩ := Ext.step _ hbr; clear hbr))
    refine bodyPost_ret (v := .agg #[.int .u32 s1.div, .int .u32 s1.rest, .int .u32 s1.set, .int .u64 s1.sec, .int .u32 (s1.alarm % 4294967296), .int .u32 (s1.alarm / 4294967296), .bool s1.en, .bool s1.ra]) (by simp [results, Try.results61, go_sem, hk1, hk2]) rfl ⟨rfl, ?_⟩
    repeat (refine below_set ?_ (by dsimp only; omega) _)
    exact below_then hB (Ext.ok _)
set_option maxHeartbeats 4000000 in
set_option maxRecDepth 100000 in
theorem rreset_any (s : St) (w : World) : Calls Try.prog 50 #[.agg #[.int .u32 s.div, .int .u32 s.rest, .int .u32 s.set, .int .u64 s.sec, .int .u32 (s.alarm % 4294967296), .int .u32 (s.alarm / 4294967296), .bool s.en, .bool s.ra]] w fun e w' => e = .returned s.reset.rv ∧ Below w.heap.size w w' := by
  go_enter Try.func50, Try.ntmps50
  go_wp2
  refine bodyPost_ret (v := .agg #[.int .u32 s.div, .int .u32 s.rest, .int .u32 0, .int .u64 s.sec, .int .u32 0, .int .u32 0, .bool false, .bool false]) (by simp [results, Try.results50, go_sem]) rfl ⟨rfl, ?_⟩
  repeat (first | exact Below.refl _ _ | refine below_set ?_ (by simp) _ | refine below_new ?_ _ | refine below_drewN ?_ _ | refine Below.drew ?_)
theorem addI_addI (a x : Int) (h0 : 0 ≤ a) (x0 : 0 ≤ x) : addI (addI a x) 1 = addI a (x + 1) := by
  unfold addI
  split <;> split <;> (try split) <;> omega
theorem addI_range (a x : Int) (h0 : 0 ≤ a) (x0 : 0 ≤ x) : 0 ≤ addI a x ∧ addI a x ≤ 18446744073709551615 := by
  unfold addI
  split <;> omega
set_option maxHeartbeats 4000000 in
set_option maxRecDepth 100000 in
theorem rtick_any (s : St) (ok : s.ok) (n : Int) (w : World) (n0 : 0 ≤ n) (n1 : n ≤ 18446744073709551615) : Calls Try.prog 47 #[.agg #[.int .u32 s.div, .int .u32 s.rest, .int .u32 s.set, .int .u64 s.sec, .int .u32 (s.alarm % 4294967296), .int .u32 (s.alarm / 4294967296), .bool s.en, .bool s.ra], .int .u64 n] w fun e w' => e = .returned (s.raise (s.tick n)).rv ∧ Below w.heap.size w w' := by
  obtain ⟨g0, g1, g2, g3, g4, g5, g6, g7, g8⟩ := tick_facts s ok n n0 n1
  have OK := Lib.hid ok
  obtain ⟨s0, s1, a0, a1, r0, r1, t0, t1, d1⟩ := ok
  by_cases hbig : s.div ≤ s.rest + n % s.div
  · have ht : s.tick n = { s with sec := addI (addI s.sec (n / s.div)) 1, rest := s.rest + n % s.div - s.div } := by
      unfold St.tick
      have hq : (s.rest + n % s.div) / s.div = 1 := by
        exact (Int.ediv_emod_unique (r := s.rest + n % s.div - s.div) (q := 1) g0).2 ⟨by omega, by omega, by omega⟩ |>.1
      have hr : (s.rest + n % s.div) % s.div = s.rest + n % s.div - s.div := by
        have := Int.emod_add_mul_ediv (s.rest + n % s.div) s.div
        rw [hq] at this
        omega
      rw [hq, hr, addI_addI _ _ s0 g1]
    have hok := St.tick_ok s OK.out n n0 n1
    have HBE := Lib.hid (fun w => behind_any s (s.tick n) OK.out hok w)
    rw [ht] at HBE ⊢
    clear ht hok
    have g : decide (s.div ≤ s.rest + n % s.div) = true := by simp; omega
    go_enter Try.func47, Try.ntmps47
    go_wp2_with fail
    refine wp_box3 ?_
    intro W hB b0 b1 b2 hW
    obtain ⟨hk0, hf0⟩ := Ext.cells b0
    obtain ⟨hk2, hf2⟩ := Ext.cells b2
    refine wp_start (w := W) ?_
    intro x
    refine wp_region_ext_tail _ 6 (by kernel_rfl) (by kernel_rfl) (by kernel_rfl) ?_
    simp only [List.take_succ_cons, List.take_zero, List.drop_succ_cons, List.drop_zero]
    repeat (go_big_quiet_step (first | (go_at_call 37; exact Ext.call (radd_any _ _ _ s0 s1 g1 g2))))
    refine wpQuiet_nil ?_
    rintro _ ⟨y, rfl⟩
    go_wp2_with fail
    refine wp_name (Pr := fun W' => RowAt W' w.heap.size #[.int .u32 s.div, .int .u32 s.rest, .int .u32 s.set, .int .u64 s.sec, .int .u32 (s.alarm % 4294967296), .int .u32 (s.alarm / 4294967296), .bool s.en, .bool s.ra] 36 ∧ RowAt W' (w.heap.size + 1) #[.int .u32 0, .int .u32 0, .int .u32 0, .int .u64 0, .int .u32 0, .int .u32 0, .bool false, .bool false] 36 ∧ RowAt W' (w.heap.size + 2) #[.int .u32 s.div, .int .u32 s.rest, .int .u32 s.set, .int .u64 (addI s.sec (n / s.div)), .int .u32 (s.alarm % 4294967296), .int .u32 (s.alarm / 4294967296), .bool s.en, .bool s.ra] 36 ∧ Below w.heap.size w W') ⟨?_, ?_, ?_, ?_⟩ ?_
    · exact (RowAt.ext (show RowAt W _ _ _ from b0) y.ok).other (by dsimp only; omega) _
    · exact (RowAt.ext (show RowAt W _ _ _ from b1) y.ok).other (by dsimp only; omega) _
    · exact (RowAt.ext (show RowAt W _ _ _ from b2) y.ok).set 3 _
    · exact below_set (below_then hB y.ok) (by dsimp only; omega) _
    clear hk0 hf0 hk2 hf2 b0 b1 b2 hB hW x
    rintro W2 ⟨R0, R1, R2, hB2⟩
    have hz2 := R1.lt
    have hz3 := R2.lt
    obtain ⟨hk0, hf0⟩ := Ext.cells R0
    obtain ⟨hk2, hf2⟩ := Ext.cells R2
    obtain ⟨p0, p1⟩ := addI_range s.sec (n / s.div) s0 g1
    refine wp_start (w := W2) ?_
    intro x
    refine wp_region_ext _ (by kernel_rfl) (by kernel_rfl) ?_
    repeat (go_big_quiet_step (fail))
    refine wpQuiet_nil ?_
    rintro _ ⟨y, rfl⟩
    go_wp2_with (first | (go_at_call 37; refine (radd_any _ _ _ p0 p1 (by omega) (by omega)).mono ?_; rintro e wr ⟨rfl, hbr⟩; obtain ⟨y2, rfl⟩ := Ext.step _ hbr; clear hbr))
    refine (HBE.out _).mono ?_
    rintro e wr ⟨rfl, hbr⟩
    have R3 : RowAt wr (w.heap.size + 1) #[.int .u32 0, .int .u32 0, .int .u32 0, .int .u64 0, .int .u32 0, .int .u32 0, .bool false, .bool false] 36 := RowAt.ext (RowAt.other (RowAt.other (RowAt.ext R1 (Ext.ok _)) (by dsimp only; omega) _) (by dsimp only; omega) _) hbr
    have kz : ∀ i v, #[.int .u32 0, .int .u32 0, .int .u32 0, .int .u64 0, .int .u32 0, .int .u32 0, .bool false, .bool false][i]? = some v → wr.cell? ⟨w.heap.size + 1, i, none⟩ = some v := fun i v h => R3.cell h
    have c0 := kz 0 _ rfl
    have c1 := kz 1 _ rfl
    have c2 := kz 2 _ rfl
    have c3 := kz 3 _ rfl
    have c4 := kz 4 _ rfl
    have c5 := kz 5 _ rfl
    have c6 := kz 6 _ rfl
    have c7 := kz 7 _ rfl
    have fz := R3.frozen
    have HB3 := Lib.hid (show Below w.heap.size w wr from below_then (below_set (below_set (below_then hB2 (Ext.ok _)) (by dsimp only; omega) _) (by dsimp only; omega) _) hbr)
    clear kz hbr hB2
    unfold St.rv
    go_wp2_with fail
    refine bodyPost_ret (v := .agg #[.int .u32 (s.raise { s with sec := addI (addI s.sec (n / s.div)) 1, rest := s.rest + n % s.div - s.div }).div, .int .u32 (s.raise { s with sec := addI (addI s.sec (n / s.div)) 1, rest := s.rest + n % s.div - s.div }).rest, .int .u32 (s.raise { s with sec := addI (addI s.sec (n / s.div)) 1, rest := s.rest + n % s.div - s.div }).set, .int .u64 (s.raise { s with sec := addI (addI s.sec (n / s.div)) 1, rest := s.rest + n % s.div - s.div }).sec, .int .u32 ((s.raise { s with sec := addI (addI s.sec (n / s.div)) 1, rest := s.rest + n % s.div - s.div }).alarm % 4294967296), .int .u32 ((s.raise { s with sec := addI (addI s.sec (n / s.div)) 1, rest := s.rest + n % s.div - s.div }).alarm / 4294967296), .bool (s.raise { s with sec := addI (addI s.sec (n / s.div)) 1, rest := s.rest + n % s.div - s.div }).en, .bool (s.raise { s with sec := addI (addI s.sec (n / s.div)) 1, rest := s.rest + n % s.div - s.div }).ra]) (by simp [results, Try.results47, go_sem, c0, c1, c2, c3, c4, c5, c6, c7]) rfl ⟨rfl, ?_⟩
    repeat (refine below_set ?_ (by dsimp only; omega) _)
    exact HB3.out
  · have ht : s.tick n = { s with sec := addI s.sec (n / s.div), rest := s.rest + n % s.div } := by
      unfold St.tick
      have hq : (s.rest + n % s.div) / s.div = 0 := by
        exact Int.ediv_eq_zero_of_lt (by omega) (by omega)
      have hr : (s.rest + n % s.div) % s.div = s.rest + n % s.div := by
        have := Int.emod_add_mul_ediv (s.rest + n % s.div) s.div
        rw [hq] at this
        omega
      rw [hq, hr, Int.add_zero]
    have hok := St.tick_ok s OK.out n n0 n1
    have HBE := Lib.hid (fun w => behind_any s (s.tick n) OK.out hok w)
    rw [ht] at HBE ⊢
    clear ht hok
    have g : decide (s.div ≤ s.rest + n % s.div) = false := by simp; omega
    go_enter Try.func47, Try.ntmps47
    go_wp2_with fail
    refine wp_box3 ?_
    intro W hB b0 b1 b2 hW
    obtain ⟨hk0, hf0⟩ := Ext.cells b0
    obtain ⟨hk2, hf2⟩ := Ext.cells b2
    refine wp_start (w := W) ?_
    intro x
    refine wp_region_ext_tail _ 6 (by kernel_rfl) (by kernel_rfl) (by kernel_rfl) ?_
    simp only [List.take_succ_cons, List.take_zero, List.drop_succ_cons, List.drop_zero]
    repeat (go_big_quiet_step (first | (go_at_call 37; exact Ext.call (radd_any _ _ _ s0 s1 g1 g2))))
    refine wpQuiet_nil ?_
    rintro _ ⟨y, rfl⟩
    go_wp2_with fail
    refine wp_name (Pr := fun W' => RowAt W' w.heap.size #[.int .u32 s.div, .int .u32 s.rest, .int .u32 s.set, .int .u64 s.sec, .int .u32 (s.alarm % 4294967296), .int .u32 (s.alarm / 4294967296), .bool s.en, .bool s.ra] 36 ∧ RowAt W' (w.heap.size + 1) #[.int .u32 0, .int .u32 0, .int .u32 0, .int .u64 0, .int .u32 0, .int .u32 0, .bool false, .bool false] 36 ∧ RowAt W' (w.heap.size + 2) #[.int .u32 s.div, .int .u32 s.rest, .int .u32 s.set, .int .u64 (addI s.sec (n / s.div)), .int .u32 (s.alarm % 4294967296), .int .u32 (s.alarm / 4294967296), .bool s.en, .bool s.ra] 36 ∧ Below w.heap.size w W') ⟨?_, ?_, ?_, ?_⟩ ?_
    · exact (RowAt.ext (show RowAt W _ _ _ from b0) y.ok).other (by dsimp only; omega) _
    · exact (RowAt.ext (show RowAt W _ _ _ from b1) y.ok).other (by dsimp only; omega) _
    · exact (RowAt.ext (show RowAt W _ _ _ from b2) y.ok).set 3 _
    · exact below_set (below_then hB y.ok) (by dsimp only; omega) _
    clear hk0 hf0 hk2 hf2 b0 b1 b2 hB hW x
    rintro W2 ⟨R0, R1, R2, hB2⟩
    have hz2 := R1.lt
    have hz3 := R2.lt
    obtain ⟨hk0, hf0⟩ := Ext.cells R0
    obtain ⟨hk2, hf2⟩ := Ext.cells R2
    obtain ⟨p0, p1⟩ := addI_range s.sec (n / s.div) s0 g1
    refine wp_start (w := W2) ?_
    intro x
    refine wp_region_ext _ (by kernel_rfl) (by kernel_rfl) ?_
    repeat (go_big_quiet_step (fail))
    refine wpQuiet_nil ?_
    rintro _ ⟨y, rfl⟩
    go_wp2_with (first | (go_at_call 37; refine (radd_any _ _ _ p0 p1 (by omega) (by omega)).mono ?_; rintro e wr ⟨rfl, hbr⟩; obtain ⟨y2, rfl⟩ := Ext.step _ hbr; clear hbr))
    refine (HBE.out _).mono ?_
    rintro e wr ⟨rfl, hbr⟩
    have R3 : RowAt wr (w.heap.size + 1) #[.int .u32 0, .int .u32 0, .int .u32 0, .int .u64 0, .int .u32 0, .int .u32 0, .bool false, .bool false] 36 := RowAt.ext (RowAt.other (RowAt.ext R1 (Ext.ok _)) (by dsimp only; omega) _) hbr
    have kz : ∀ i v, #[.int .u32 0, .int .u32 0, .int .u32 0, .int .u64 0, .int .u32 0, .int .u32 0, .bool false, .bool false][i]? = some v → wr.cell? ⟨w.heap.size + 1, i, none⟩ = some v := fun i v h => R3.cell h
    have c0 := kz 0 _ rfl
    have c1 := kz 1 _ rfl
    have c2 := kz 2 _ rfl
    have c3 := kz 3 _ rfl
    have c4 := kz 4 _ rfl
    have c5 := kz 5 _ rfl
    have c6 := kz 6 _ rfl
    have c7 := kz 7 _ rfl
    have fz := R3.frozen
    have HB3 := Lib.hid (show Below w.heap.size w wr from below_then (below_set (below_then hB2 (Ext.ok _)) (by dsimp only; omega) _) hbr)
    clear kz hbr hB2
    unfold St.rv
    go_wp2_with fail
    refine bodyPost_ret (v := .agg #[.int .u32 (s.raise { s with sec := addI s.sec (n / s.div), rest := s.rest + n % s.div }).div, .int .u32 (s.raise { s with sec := addI s.sec (n / s.div), rest := s.rest + n % s.div }).rest, .int .u32 (s.raise { s with sec := addI s.sec (n / s.div), rest := s.rest + n % s.div }).set, .int .u64 (s.raise { s with sec := addI s.sec (n / s.div), rest := s.rest + n % s.div }).sec, .int .u32 ((s.raise { s with sec := addI s.sec (n / s.div), rest := s.rest + n % s.div }).alarm % 4294967296), .int .u32 ((s.raise { s with sec := addI s.sec (n / s.div), rest := s.rest + n % s.div }).alarm / 4294967296), .bool (s.raise { s with sec := addI s.sec (n / s.div), rest := s.rest + n % s.div }).en, .bool (s.raise { s with sec := addI s.sec (n / s.div), rest := s.rest + n % s.div }).ra]) (by simp [results, Try.results47, go_sem, c0, c1, c2, c3, c4, c5, c6, c7]) rfl ⟨rfl, ?_⟩
    repeat (refine below_set ?_ (by dsimp only; omega) _)
    exact HB3.out
theorem left_cut (N d r : Int) (h0 : 0 ≤ r) (h1 : r < d) :
    ((18446744073709551615 - (d - r)) / d < N - 1 ↔ ¬ N * d - r ≤ 18446744073709551615) ∧ (N - 1) * d + (d - r) = N * d - r := by
  have hd : 0 < d := by omega
  have e : (N - 1) * d = N * d - d := by rw [Int.sub_mul, Int.one_mul]
  rw [Int.ediv_lt_iff_lt_mul hd, e]
  omega
set_option maxHeartbeats 4000000 in
set_option maxRecDepth 100000 in
theorem rleft_any (s : St) (ok : s.ok) (w : World) : Calls Try.prog 53 #[.agg #[.int .u32 s.div, .int .u32 s.rest, .int .u32 s.set, .int .u64 s.sec, .int .u32 (s.alarm % 4294967296), .int .u32 (s.alarm / 4294967296), .bool s.en, .bool s.ra]] w fun e w' => e = .returned (.int .u64 s.left) ∧ Below w.heap.size w w' := by
  have HA := Lib.hid (fun w => ralarm_any s ok w)
  have HM := Lib.hid (fun w => rmet_any s ok w)
  obtain ⟨s0, s1, a0, a1, r0, r1, t0, t1, d1⟩ := ok
  by_cases hen : s.en = true
  · rw [hen] at HA HM
    by_cases hm : s.alarm ≤ s.sec
    · have e1 : s.left = 18446744073709551615 := by rw [St.left, if_pos (.inr hm)]
      have hmb : s.metB = true := by rw [St.metB, hen, decide_eq_true hm]; rfl
      rw [hmb] at HM
      rw [e1, hen]
      clear e1 hm hmb hen
      go_enter Try.func53, Try.ntmps53
      go_wp2_with fail
      refine calls_box ?_
      intro W hB b0 hW
      refine (HM.out _).mono ?_
      rintro e w1 ⟨rfl, hb1⟩
      go_wp2_with fail
      go_ret
      exact ⟨rfl, below_then hB hb1⟩
    · have hmb : s.metB = false := by rw [St.metB, hen, decide_eq_false hm]; rfl
      obtain ⟨q1, q2⟩ := left_cut (s.alarm - s.sec) s.div s.rest r0 r1
      have p0 : 0 ≤ (s.alarm - s.sec - 1) * s.div := Int.mul_nonneg (by omega) (by omega)
      have p1 : (s.alarm - s.sec) * s.div - s.rest ≤ 18446744073709551615 → (s.alarm - s.sec - 1) * s.div + (s.div - s.rest) ≤ 18446744073709551615 := fun h => by omega
      have hres : s.left = if (18446744073709551615 - (s.div - s.rest)) / s.div < s.alarm - s.sec - 1 then 18446744073709551615 else (s.alarm - s.sec - 1) * s.div + (s.div - s.rest) := by
        rw [St.left, if_neg (by rw [hen]; simp; omega)]
        by_cases hle : (s.alarm - s.sec) * s.div - s.rest ≤ 18446744073709551615
        · rw [if_pos hle, if_neg (fun h => q1.1 h hle), q2]
        · rw [if_neg hle, if_pos (q1.2 hle)]
      have hcut : ¬ (18446744073709551615 - (s.div - s.rest)) / s.div < s.alarm - s.sec - 1 → (s.alarm - s.sec - 1) * s.div + (s.div - s.rest) ≤ 18446744073709551615 := fun h => p1 (by
        by_cases hle : (s.alarm - s.sec) * s.div - s.rest ≤ 18446744073709551615
        · exact hle
        · exact absurd (q1.2 hle) h)
      rw [hmb] at HM
      rw [hen]
      have q3 : IntKind.u64.wrap ((18446744073709551615 - (s.div - s.rest)).tdiv s.div) = (18446744073709551615 - (s.div - s.rest)) / s.div := by
        rw [Int.tdiv_eq_ediv_of_nonneg (by omega), IntKind.wrap_u64]
        have h1 := Int.ediv_nonneg (show 0 ≤ 18446744073709551615 - (s.div - s.rest) by omega) (show 0 ≤ s.div by omega)
        have h2 := Int.ediv_le_self s.div (show 0 ≤ 18446744073709551615 - (s.div - s.rest) by omega)
        omega
      have hlt2 : s.sec < s.alarm := by omega
      clear hmb q1 q2 p1 hm hen
      by_cases hc : (18446744073709551615 - (s.div - s.rest)) / s.div < s.alarm - s.sec - 1
      all_goals
        first | rw [hres, if_pos hc] | (rw [hres, if_neg hc]; have hc2 := hcut hc)
        first | (have g : decide ((18446744073709551615 - (s.div - s.rest)) / s.div < s.alarm - s.sec - 1) = true := decide_eq_true hc) | (have g : decide ((18446744073709551615 - (s.div - s.rest)) / s.div < s.alarm - s.sec - 1) = false := decide_eq_false hc)
        clear hres hcut hc
        go_enter Try.func53, Try.ntmps53
        go_wp2_with fail
        refine calls_box ?_
        intro W hB b0 hW
        obtain ⟨hk, hf⟩ := Ext.cells b0
        refine (HM.out _).mono ?_
        rintro e w1 ⟨rfl, hb1⟩
        obtain ⟨x, rfl⟩ := Ext.of hb1
        clear hb1 b0 hW
        go_wp2_with fail
        refine wp_region_ext _ (by kernel_rfl) (by kernel_rfl) ?_
        repeat (go_big_quiet_step ((go_at_call 51; exact Ext.call (HA.out _))))
        refine wpQuiet_nil ?_
        rintro _ ⟨y, rfl⟩
        go_wp2_with fail
        go_ret
        exact ⟨rfl, below_then hB (Ext.ok _)⟩
  · have hen' : s.en = false := by simpa using hen
    have e1 : s.left = 18446744073709551615 := by rw [St.left, if_pos (.inl hen')]
    rw [e1, hen']
    clear e1 hen hen'
    go_enter Try.func53, Try.ntmps53
    go_wp2
    go_ret
    exact ⟨rfl, by repeat (first | exact Below.refl _ _ | refine below_set ?_ (by simp) _ | refine below_new ?_ _ | refine below_drewN ?_ _ | refine Below.drew ?_)⟩
set_option maxHeartbeats 4000000 in
set_option maxRecDepth 100000 in
theorem rload_out (s : St) (off : Int) (w : World) (o0 : 0 ≤ off) (o1 : off ≤ 4294967295) (h : off % 4 ≠ 0 ∨ 36 ≤ off) : Calls Try.prog 48 #[.agg #[.int .u32 s.div, .int .u32 s.rest, .int .u32 s.set, .int .u64 s.sec, .int .u32 (s.alarm % 4294967296), .int .u32 (s.alarm / 4294967296), .bool s.en, .bool s.ra], .int .u32 off] w fun e w' => e = .returned (.tuple #[.int .u32 0, .int .i64 (placeI off).2]) ∧ Below w.heap.size w w' := by
  by_cases h1 : off % 4 = 0
  · have e1 : (placeI off).2 = 10 := by rw [placeI, if_neg (by omega), if_pos (by omega)]
    rw [e1]
    have g : (off % 4 != 0) = false := by rw [h1]; rfl
    have g0 : (off == 0) = false := by simp; omega
    have g4 : (off == 4) = false := by simp; omega
    have g8 : (off == 8) = false := by simp; omega
    have g12 : (off == 12) = false := by simp; omega
    have g16 : (off == 16) = false := by simp; omega
    have g20 : (off == 20) = false := by simp; omega
    have g24 : (off == 24) = false := by simp; omega
    have g28 : (off == 28) = false := by simp; omega
    have g32 : (off == 32) = false := by simp; omega
    clear e1 h h1
    go_enter Try.func48, Try.ntmps48
    go_wp2
    go_ret2
    exact ⟨rfl, by repeat (first | exact Below.refl _ _ | refine below_set ?_ (by simp) _ | refine below_new ?_ _ | refine below_drewN ?_ _ | refine Below.drew ?_)⟩
  · have e1 : (placeI off).2 = 11 := by rw [placeI, if_pos h1]
    rw [e1]
    have g : (off % 4 != 0) = true := by simpa using h1
    clear e1 h h1
    go_enter Try.func48, Try.ntmps48
    go_wp2
    go_ret2
    exact ⟨rfl, by repeat (first | exact Below.refl _ _ | refine below_set ?_ (by simp) _ | refine below_new ?_ _ | refine below_drewN ?_ _ | refine Below.drew ?_)⟩
set_option maxHeartbeats 4000000 in
set_option maxRecDepth 100000 in
theorem rload_0 (s : St) (ok : s.ok) (w : World) : Calls Try.prog 48 #[.agg #[.int .u32 s.div, .int .u32 s.rest, .int .u32 s.set, .int .u64 s.sec, .int .u32 (s.alarm % 4294967296), .int .u32 (s.alarm / 4294967296), .bool s.en, .bool s.ra], .int .u32 0] w fun e w' => e = .returned (.tuple #[.int .u32 (s.load 0).1, .int .i64 (s.load 0).2]) ∧ Below w.heap.size w w' := by
  obtain ⟨s0, s1, a0, a1, r0, r1, t0, t1, d1⟩ := ok
  have e1 : s.load 0 = (s.sec % 4294967296, 0) := by simp [St.load, placeI, St.words]
  rw [e1]
  clear e1
  go_enter Try.func48, Try.ntmps48
  go_wp2_with fail
  refine (rlo_any _ _ s0 s1).mono ?_
  rintro e w1 ⟨rfl, hb1⟩
  go_wp2_with fail
  go_ret2
  exact ⟨rfl, below_then (below_new (Below.refl _ _) _) hb1⟩
set_option maxHeartbeats 4000000 in
set_option maxRecDepth 100000 in
theorem rload_4 (s : St) (ok : s.ok) (w : World) : Calls Try.prog 48 #[.agg #[.int .u32 s.div, .int .u32 s.rest, .int .u32 s.set, .int .u64 s.sec, .int .u32 (s.alarm % 4294967296), .int .u32 (s.alarm / 4294967296), .bool s.en, .bool s.ra], .int .u32 4] w fun e w' => e = .returned (.tuple #[.int .u32 (s.load 4).1, .int .i64 (s.load 4).2]) ∧ Below w.heap.size w w' := by
  obtain ⟨s0, s1, a0, a1, r0, r1, t0, t1, d1⟩ := ok
  have e1 : s.load 4 = (s.sec / 4294967296, 0) := by simp [St.load, placeI, St.words]
  rw [e1]
  clear e1
  go_enter Try.func48, Try.ntmps48
  go_wp2_with fail
  refine (rhi_any _ _ s0 s1).mono ?_
  rintro e w1 ⟨rfl, hb1⟩
  go_wp2_with fail
  go_ret2
  exact ⟨rfl, below_then (below_new (Below.refl _ _) _) hb1⟩
set_option maxHeartbeats 4000000 in
set_option maxRecDepth 100000 in
theorem rload_8 (s : St) (ok : s.ok) (w : World) : Calls Try.prog 48 #[.agg #[.int .u32 s.div, .int .u32 s.rest, .int .u32 s.set, .int .u64 s.sec, .int .u32 (s.alarm % 4294967296), .int .u32 (s.alarm / 4294967296), .bool s.en, .bool s.ra], .int .u32 8] w fun e w' => e = .returned (.tuple #[.int .u32 (s.load 8).1, .int .i64 (s.load 8).2]) ∧ Below w.heap.size w w' := by
  obtain ⟨s0, s1, a0, a1, r0, r1, t0, t1, d1⟩ := ok
  have e1 : s.load 8 = (s.set, 0) := by simp [St.load, placeI, St.words]
  rw [e1]
  clear e1
  go_enter Try.func48, Try.ntmps48
  go_wp2_with fail
  go_ret2
  exact ⟨rfl, by repeat (first | exact Below.refl _ _ | refine below_set ?_ (by simp) _ | refine below_new ?_ _ | refine below_drewN ?_ _ | refine Below.drew ?_)⟩
set_option maxHeartbeats 4000000 in
set_option maxRecDepth 100000 in
theorem rload_12 (s : St) (ok : s.ok) (w : World) : Calls Try.prog 48 #[.agg #[.int .u32 s.div, .int .u32 s.rest, .int .u32 s.set, .int .u64 s.sec, .int .u32 (s.alarm % 4294967296), .int .u32 (s.alarm / 4294967296), .bool s.en, .bool s.ra], .int .u32 12] w fun e w' => e = .returned (.tuple #[.int .u32 (s.load 12).1, .int .i64 (s.load 12).2]) ∧ Below w.heap.size w w' := by
  obtain ⟨s0, s1, a0, a1, r0, r1, t0, t1, d1⟩ := ok
  have e1 : s.load 12 = (0, 0) := by simp [St.load, placeI, St.words]
  rw [e1]
  clear e1
  go_enter Try.func48, Try.ntmps48
  go_wp2_with fail
  go_ret2
  exact ⟨rfl, by repeat (first | exact Below.refl _ _ | refine below_set ?_ (by simp) _ | refine below_new ?_ _ | refine below_drewN ?_ _ | refine Below.drew ?_)⟩
set_option maxHeartbeats 4000000 in
set_option maxRecDepth 100000 in
theorem rload_16 (s : St) (ok : s.ok) (w : World) : Calls Try.prog 48 #[.agg #[.int .u32 s.div, .int .u32 s.rest, .int .u32 s.set, .int .u64 s.sec, .int .u32 (s.alarm % 4294967296), .int .u32 (s.alarm / 4294967296), .bool s.en, .bool s.ra], .int .u32 16] w fun e w' => e = .returned (.tuple #[.int .u32 (s.load 16).1, .int .i64 (s.load 16).2]) ∧ Below w.heap.size w w' := by
  obtain ⟨s0, s1, a0, a1, r0, r1, t0, t1, d1⟩ := ok
  have e1 : s.load 16 = (s.alarm % 4294967296, 0) := by simp [St.load, placeI, St.words]
  rw [e1]
  clear e1
  go_enter Try.func48, Try.ntmps48
  go_wp2_with fail
  go_ret2
  exact ⟨rfl, by repeat (first | exact Below.refl _ _ | refine below_set ?_ (by simp) _ | refine below_new ?_ _ | refine below_drewN ?_ _ | refine Below.drew ?_)⟩
set_option maxHeartbeats 4000000 in
set_option maxRecDepth 100000 in
theorem rload_20 (s : St) (ok : s.ok) (w : World) : Calls Try.prog 48 #[.agg #[.int .u32 s.div, .int .u32 s.rest, .int .u32 s.set, .int .u64 s.sec, .int .u32 (s.alarm % 4294967296), .int .u32 (s.alarm / 4294967296), .bool s.en, .bool s.ra], .int .u32 20] w fun e w' => e = .returned (.tuple #[.int .u32 (s.load 20).1, .int .i64 (s.load 20).2]) ∧ Below w.heap.size w w' := by
  obtain ⟨s0, s1, a0, a1, r0, r1, t0, t1, d1⟩ := ok
  have e1 : s.load 20 = (s.alarm / 4294967296, 0) := by simp [St.load, placeI, St.words]
  rw [e1]
  clear e1
  go_enter Try.func48, Try.ntmps48
  go_wp2_with fail
  go_ret2
  exact ⟨rfl, by repeat (first | exact Below.refl _ _ | refine below_set ?_ (by simp) _ | refine below_new ?_ _ | refine below_drewN ?_ _ | refine Below.drew ?_)⟩
set_option maxHeartbeats 4000000 in
set_option maxRecDepth 100000 in
theorem rload_24 (s : St) (ok : s.ok) (w : World) : Calls Try.prog 48 #[.agg #[.int .u32 s.div, .int .u32 s.rest, .int .u32 s.set, .int .u64 s.sec, .int .u32 (s.alarm % 4294967296), .int .u32 (s.alarm / 4294967296), .bool s.en, .bool s.ra], .int .u32 24] w fun e w' => e = .returned (.tuple #[.int .u32 (s.load 24).1, .int .i64 (s.load 24).2]) ∧ Below w.heap.size w w' := by
  obtain ⟨s0, s1, a0, a1, r0, r1, t0, t1, d1⟩ := ok
  have e1 : s.load 24 = (flagI s.en, 0) := by simp [St.load, placeI, St.words]
  rw [e1]
  clear e1
  rcases Bool.eq_false_or_eq_true s.en with hfl | hfl
  all_goals
    rw [hfl]
    go_enter Try.func48, Try.ntmps48
    go_wp2_with fail
    go_ret2
    exact ⟨rfl, by repeat (first | exact Below.refl _ _ | refine below_set ?_ (by simp) _ | refine below_new ?_ _ | refine below_drewN ?_ _ | refine Below.drew ?_)⟩
set_option maxHeartbeats 4000000 in
set_option maxRecDepth 100000 in
theorem rload_28 (s : St) (ok : s.ok) (w : World) : Calls Try.prog 48 #[.agg #[.int .u32 s.div, .int .u32 s.rest, .int .u32 s.set, .int .u64 s.sec, .int .u32 (s.alarm % 4294967296), .int .u32 (s.alarm / 4294967296), .bool s.en, .bool s.ra], .int .u32 28] w fun e w' => e = .returned (.tuple #[.int .u32 (s.load 28).1, .int .i64 (s.load 28).2]) ∧ Below w.heap.size w w' := by
  obtain ⟨s0, s1, a0, a1, r0, r1, t0, t1, d1⟩ := ok
  have e1 : s.load 28 = (flagI s.ra, 0) := by simp [St.load, placeI, St.words]
  rw [e1]
  clear e1
  rcases Bool.eq_false_or_eq_true s.ra with hfl | hfl
  all_goals
    rw [hfl]
    go_enter Try.func48, Try.ntmps48
    go_wp2_with fail
    go_ret2
    exact ⟨rfl, by repeat (first | exact Below.refl _ _ | refine below_set ?_ (by simp) _ | refine below_new ?_ _ | refine below_drewN ?_ _ | refine Below.drew ?_)⟩
set_option maxHeartbeats 4000000 in
set_option maxRecDepth 100000 in
theorem rload_32 (s : St) (ok : s.ok) (w : World) : Calls Try.prog 48 #[.agg #[.int .u32 s.div, .int .u32 s.rest, .int .u32 s.set, .int .u64 s.sec, .int .u32 (s.alarm % 4294967296), .int .u32 (s.alarm / 4294967296), .bool s.en, .bool s.ra], .int .u32 32] w fun e w' => e = .returned (.tuple #[.int .u32 (s.load 32).1, .int .i64 (s.load 32).2]) ∧ Below w.heap.size w w' := by
  obtain ⟨s0, s1, a0, a1, r0, r1, t0, t1, d1⟩ := ok
  have e1 : s.load 32 = (s.div, 0) := by simp [St.load, placeI, St.words]
  rw [e1]
  clear e1
  go_enter Try.func48, Try.ntmps48
  go_wp2_with fail
  go_ret2
  exact ⟨rfl, by repeat (first | exact Below.refl _ _ | refine below_set ?_ (by simp) _ | refine below_new ?_ _ | refine below_drewN ?_ _ | refine Below.drew ?_)⟩
theorem rload_any (s : St) (ok : s.ok) (off : Int) (w : World) (o0 : 0 ≤ off) (o1 : off ≤ 4294967295) : Calls Try.prog 48 #[.agg #[.int .u32 s.div, .int .u32 s.rest, .int .u32 s.set, .int .u64 s.sec, .int .u32 (s.alarm % 4294967296), .int .u32 (s.alarm / 4294967296), .bool s.en, .bool s.ra], .int .u32 off] w fun e w' => e = .returned (.tuple #[.int .u32 (s.load off).1, .int .i64 (s.load off).2]) ∧ Below w.heap.size w w' := by
  by_cases h : off % 4 ≠ 0 ∨ 36 ≤ off
  · have hp : (placeI off).2 ≠ 0 := by
      unfold placeI
      by_cases h1 : off % 4 ≠ 0
      · rw [if_pos h1]; decide
      · rw [if_neg h1, if_pos (by omega)]; decide
    have e1 : s.load off = (0, (placeI off).2) := by rw [St.load, if_neg hp]
    rw [e1]
    exact rload_out s off w o0 o1 h
  · have hc : off = 0 ∨ off = 4 ∨ off = 8 ∨ off = 12 ∨ off = 16 ∨ off = 20 ∨ off = 24 ∨ off = 28 ∨ off = 32 := by omega
    rcases hc with rfl | rfl | rfl | rfl | rfl | rfl | rfl | rfl | rfl
    · exact rload_0 s ok w
    · exact rload_4 s ok w
    · exact rload_8 s ok w
    · exact rload_12 s ok w
    · exact rload_16 s ok w
    · exact rload_20 s ok w
    · exact rload_24 s ok w
    · exact rload_28 s ok w
    · exact rload_32 s ok w
end Go.Proofs.Ytdhgcmodlikckaa
