/- The law BusFull. -/
import Derived.Test.YtgkklgebgabncaaBuI
namespace Go.Proofs.Ytgkklgebgabncaa
open Go.RowKit
set_option linter.unusedVariables false
set_option linter.unusedSimpArgs false
open Go.Lib Go.Sort
def full (n : Nat) (s : Int) : List (Int × Int) := (List.range n).map fun (j : Nat) => ((j : Int) * 64, s)
theorem full_succ (n : Nat) (s : Int) : full (n + 1) s = full n s ++ [((n : Int) * 64, s)] := by
  unfold full
  rw [List.range_succ, List.map_append]
  rfl
theorem full_len (n : Nat) (s : Int) : (full n s).length = n := by simp [full]
theorem full_mem {n : Nat} {s : Int} {p : Int × Int} (h : p ∈ full n s) : ∃ j : Nat, j < n ∧ p = ((j : Int) * 64, s) := by
  unfold full at h
  obtain ⟨j, hj, rfl⟩ := List.mem_map.1 h
  exact ⟨j, List.mem_range.1 hj, rfl⟩
theorem mod71 (a : Int) : ∃ k : Nat, k ≤ 70 ∧ wrap64 ((IntKind.u64.wrap a).tmod 71) = (k : Int) := by
  have h0 : 0 ≤ IntKind.u64.wrap a := by rw [IntKind.wrap_u64]; omega
  have h : (IntKind.u64.wrap a).tmod 71 = IntKind.u64.wrap a % 71 := Int.tmod_eq_emod_of_nonneg h0
  rw [h]
  refine ⟨(IntKind.u64.wrap a % 71).toNat, by omega, ?_⟩
  unfold wrap64
  omega
/-- One region more. -/
theorem att_full {M : Rn} {n : Nat} {s : Int} (h : M.map (·.1) = full n s) (hn : n < 64) (s0 : 0 < s) (s1 : s ≤ 64) (s4 : s % 4 = 0) : attE M ((n : Int) * 64, s) = 0 := by
  have hl : M.length = n := by
    have := congrArg List.length h
    rwa [List.length_map, full_len] at this
  unfold attE
  rw [if_neg (by dsimp only; omega), if_neg (by dsimp only; omega), if_neg (by omega), if_neg]
  rw [List.any_eq_true]
  rintro ⟨p, hp, hm⟩
  have h2 : p.1 ∈ full n s := h ▸ List.mem_map.2 ⟨p, hp, rfl⟩
  obtain ⟨j, hj, e⟩ := full_mem h2
  rw [e] at hm
  unfold meetB endI at hm
  rw [decide_eq_true_eq] at hm
  dsimp only at hm
  omega
theorem att_many {M : Rn} {s : Int} {i : Nat} (h : M.map (·.1) = full 64 s) (hi : i ≤ 70) (s0 : 0 < s) (s1 : s ≤ 64) (s4 : s % 4 = 0) : attE M ((i : Int) * 64, s) = 6 := by
  have hl : M.length = 64 := by
    have := congrArg List.length h
    rwa [List.length_map, full_len] at this
  unfold attE
  rw [if_neg (by dsimp only; omega), if_neg (by dsimp only; omega), if_pos (by omega)]
theorem attM_full {M : Rn} {n : Nat} {s : Int} {c : Nat} {d : Value} (h : M.map (·.1) = full n s) (hr : R32 ((n : Int) * 64, s)) (h0 : attE M ((n : Int) * 64, s) = 0) : (attM M c ((n : Int) * 64, s) d).map (·.1) = full (n + 1) s := by
  unfold attM
  rw [if_pos h0, updL_new (att_new hr h0).1, List.map_append, h, full_succ]
  rfl
def AttErr (x1 x2 n : Int) : Prop := ((¬ x1 % 4 = 0 ∨ ¬ x2 % 4 = 0) ∧ n = 11) ∨ (x1 % 4 = 0 ∧ x2 % 4 = 0 ∧ (x2 = 0 ∨ 4294967296 < x1 + x2) ∧ n = 5)
set_option maxHeartbeats 8000000 in
set_option maxRecDepth 100000 in
theorem attach_val (b : Nat) (x1 x2 : Int) (t : TypeId) (dv : Value) (w : World) (hr : R32 (x1, x2)) (n : Int) (h : AttErr x1 x2 n) :
    Calls Try.prog 31 #[.pointer (some ⟨b, 0, none⟩), .agg #[.int .u32 x1, .int .u32 x2], .iface t dv] w fun e w' => e = .returned (.int .i64 n) ∧ Below w.heap.size w w' := by
  rcases h with ⟨h, rfl⟩ | ⟨h1, h2, h, rfl⟩
  · exact attach_11 b x1 x2 t dv w hr (Lib.hid h)
  · exact attach_5 b x1 x2 t dv w hr h1 h2 (Lib.hid h)
set_option maxHeartbeats 8000000 in
set_option maxRecDepth 100000 in
theorem BusFull_walk (n s : Int) (W : World) (n0 : -9223372036854775808 ≤ n) (n1 : n ≤ 9223372036854775807) (s0 : 0 ≤ s) (s1 : s ≤ 4294967295) :
    Calls Try.prog 6 #[.int .i64 n, .int .u32 s] W fun e w' => e = .returned (.bool true) ∧ Below W.heap.size W w' := by
  obtain ⟨k, hk, ek⟩ := mod71 n
  obtain ⟨z, ez⟩ : ∃ z : Int, z = 4 + 4 * (s % 16) := ⟨_, rfl⟩
  have z0 : 0 < z := by omega
  have z1 : z ≤ 64 := by omega
  have z4 : z % 4 = 0 := by omega
  have e1 : IntKind.u32.wrap (4 * (s % 16)) = 4 * (s % 16) := by rw [IntKind.wrap_u32]; omega
  have e2 : IntKind.u32.wrap (4 + 4 * (s % 16)) = z := by rw [IntKind.wrap_u32]; omega
  go_enter Try.func6, Try.ntmps6
  go_upto_region 4 with (first | (go_at_call 30; refine (bnew_any _).mono ?_; rintro e w1 ⟨b, bm, rfl, hb0, hbm0, hA, hB1⟩) | (go_at_call 10; refine (rnew_any _).mono ?_; rintro e w2 ⟨f, fm, rfl, hf0, hfm0, hF, hB2⟩))
  have hlA := hA.lt
  refine wp_name (Pr := fun W2 => BuAt W2 b bm [] 0 ∧ W.heap.size ≤ b ∧ W.heap.size ≤ bm ∧ Below W.heap.size W W2) ⟨hA.ext hB2, hb0, hbm0, below_then hB1 hB2⟩ ?_
  clear hlA hA hb0 hbm0 hB1 hB2 hF hf0 hfm0
  rintro W2 ⟨hA, hb0, hbm0, hB⟩
  have HA := Lib.hid hA
  have HB := Lib.hid hB
  have HZ := Lib.hid (And.intro z0 (And.intro z1 z4))
  have HE := Lib.hid ez
  have HBB := Lib.hid (And.intro hb0 hbm0)
  clear hA hB z0 z1 z4 ez hb0 hbm0
  go_upto_region 7 with fail
  simp only [ek]
  have HK := Lib.hid hk
  clear hk e1 e2 ek
  go_loopw [8] (fun v wr => ∃ i : Nat, i ≤ k ∧ v = .int .i64 i ∧ (∃ M c, BuAt wr b bm M c ∧ BuOk M ∧ M.map (·.1) = full (min i 64) z) ∧ Below W.heap.size W wr) (fun v _ => k - (intOf v).toNat)
  case atStart => exact ⟨0, by omega, rfl, ⟨[], 0, HA.out, BuOk.nil, rfl⟩, HB.out⟩
  case round =>
    clear HA HB
    obtain ⟨i, hi, rfl, ⟨M, c, hA, hO, hM⟩, hB⟩ := hrel
    have HA := Lib.hid hA
    have HO := Lib.hid hO
    have HM := Lib.hid hM
    have HB := Lib.hid hB
    clear hA hO hM hB
    by_cases hlt : i < k
    · have t0 : decide ((i : Int) < (k : Int)) = true := dec_t (by omega)
      have c1 : IntKind.u32.wrap (i : Int) = (i : Int) := by have := HK.out; rw [IntKind.wrap_u32]; omega
      have c2 : IntKind.u32.wrap ((i : Int) * 64) = (i : Int) * 64 := by have := HK.out; rw [IntKind.wrap_u32]; omega
      have c3 : wrap64 ((i : Int) + 1) = (i : Int) + 1 := by have := HK.out; unfold wrap64; omega
      have HR := Lib.hid (show R32 ((i : Int) * 64, z) from ⟨by dsimp only; omega, by have := HK.out; dsimp only; omega, by have := HZ.out; dsimp only; omega, by have := HZ.out; dsimp only; omega⟩)
      by_cases h64 : i < 64
      · have t1 : decide ((i : Int) < 64) = true := dec_t (by omega)
        have t2 : decide ((64 : Int) ≤ (i : Int)) = false := dec_f (by omega)
        have hM' : M.map (·.1) = full i z := by rw [HM.out, show min i 64 = i by omega]
        have hatt : attE M ((i : Int) * 64, z) = 0 := att_full hM' h64 HZ.out.1 HZ.out.2.1 HZ.out.2.2
        have HMM := Lib.hid hM'
        clear hM'
        go_wp2_with (go_at_call 31; refine (attach_any b bm M c ((i : Int) * 64) z 23 (.pointer (some ⟨f, 0, none⟩)) _ HA.out HO.out HR.out).mono ?_; rintro e w3 ⟨rfl, ⟨c4, hA3⟩, hO3⟩; rw [hatt])
        go_roundw
        case measure => simp [intOf]; omega
        case rel =>
          refine ⟨i + 1, by omega, by simp, ⟨_, c4, hA3, HO.out.att HR.out, ?_⟩, Only.below HB.out hO3 (fun k hk => by rw [hk]; exact HBB.out.2) HB.out.size⟩
          rw [attM_full HMM.out HR.out hatt, show min (i + 1) 64 = i + 1 by omega]
      · have t1 : decide ((i : Int) < 64) = false := dec_f (by omega)
        have t2 : decide ((64 : Int) ≤ (i : Int)) = true := dec_t (by omega)
        have hM' : M.map (·.1) = full 64 z := by rw [HM.out, show min i 64 = 64 by omega]
        have hatt : attE M ((i : Int) * 64, z) = 6 := att_many hM' (by have := HK.out; omega) HZ.out.1 HZ.out.2.1 HZ.out.2.2
        have HMM := Lib.hid hM'
        clear hM'
        go_wp2_with (go_at_call 31; refine (attach_any b bm M c ((i : Int) * 64) z 23 (.pointer (some ⟨f, 0, none⟩)) _ HA.out HO.out HR.out).mono ?_; rintro e w3 ⟨rfl, ⟨c4, hA3⟩, hO3⟩; rw [hatt])
        go_roundw
        case measure => rw [c3]; simp only [intOf]; omega
        case rel =>
          refine ⟨i + 1, by omega, by rw [c3]; rfl, ⟨_, c4, hA3, HO.out.att HR.out, ?_⟩, Only.below HB.out hO3 (fun k hk => by rw [hk]; exact HBB.out.2) HB.out.size⟩
          unfold attM
          rw [if_neg (by rw [hatt]; decide), HMM.out, show min (i + 1) 64 = 64 by omega]
    · obtain rfl : i = k := by omega
      have t0 : decide ((i : Int) < (i : Int)) = false := dec_f (by omega)
      have hl : M.length = min i 64 := by
        have := congrArg List.length HM.out
        rwa [List.length_map, full_len] at this
      have HL := Lib.hid hl
      clear hl
      go_upto_region 12 with fail
      have HML := Lib.hid (show M.length ≤ 1000000000 by have := HO.out.len; omega)
      have a1 : AttErr 1 0 11 := Or.inl ⟨Or.inl (by decide), rfl⟩
      have a2 : AttErr 4294967292 8 5 := Or.inr ⟨by decide, by decide, Or.inr (by decide), rfl⟩
      have g1 : R32 (1, 0) := ⟨by decide, by decide, by decide, by decide⟩
      have g2 : R32 (4294967292, 8) := ⟨by decide, by decide, by decide, by decide⟩
      rcases Nat.lt_trichotomy i 64 with hc | hc | hc
      · have hN := Lib.hid (show M.length = i by rw [HL.out]; omega)
        have p1 : (i : Int) < 64 := by omega
        have p2 : ¬ (64 : Int) < (i : Int) := by omega
        have m1 : min (i : Int) 64 = (i : Int) := by omega
        clear p1 p2
        clear t0 hc hi hlt
        refine wp_start (w := wr) ?_
        intro x
        go_wp2_with (first | (go_at_call 25; refine (known03 _).mono ?_; rintro e wr ⟨rfl, hbr⟩; obtain ⟨y, rfl⟩ := Ext.step _ hbr; clear hbr) | (go_at_call 32; refine (regs_any b bm M c _ (HA.out.ext (Ext.ok _)) HML).mono ?_; rintro e wq ⟨d, hp, _, ⟨v, rfl, hR⟩, hbr⟩; obtain ⟨sa, cap, rfl, _⟩ := hR.v; have hds := (show d.size = M.length by simpa using hp.length_eq).trans hN.out; rw [hds]; clear hds hR hp; obtain ⟨y, rfl⟩ := Ext.step _ hbr; clear hbr) | (go_at_call 31; refine (attach_val b _ _ _ _ _ (by assumption) _ (by assumption)).mono ?_; rintro e wq ⟨rfl, hbr⟩; obtain ⟨y, rfl⟩ := Ext.step _ hbr; clear hbr))
        go_ret
        exact ⟨rfl, below_then HB.out (Ext.ok _)⟩
      · subst hc
        have hN := Lib.hid (show M.length = 64 by rw [HL.out]; rfl)
        refine wp_start (w := wr) ?_
        intro x
        go_wp2_with (first | (go_at_call 25; refine (known03 _).mono ?_; rintro e wr ⟨rfl, hbr⟩; obtain ⟨y, rfl⟩ := Ext.step _ hbr; clear hbr) | (go_at_call 32; refine (regs_any b bm M c _ (HA.out.ext (Ext.ok _)) HML).mono ?_; rintro e wq ⟨d, hp, _, ⟨v, rfl, hR⟩, hbr⟩; obtain ⟨sa, cap, rfl, _⟩ := hR.v; have hds := (show d.size = M.length by simpa using hp.length_eq).trans hN.out; rw [hds]; clear hds hR hp; obtain ⟨y, rfl⟩ := Ext.step _ hbr; clear hbr) | (go_at_call 31; refine (attach_val b _ _ _ _ _ (by assumption) _ (by assumption)).mono ?_; rintro e wq ⟨rfl, hbr⟩; obtain ⟨y, rfl⟩ := Ext.step _ hbr; clear hbr))
        go_ret
        exact ⟨rfl, below_then HB.out (Ext.ok _)⟩
      · have hN := Lib.hid (show M.length = 64 by rw [HL.out]; omega)
        have p1 : (64 : Int) < (i : Int) := by omega
        have p2 : ¬ (i : Int) < 64 := by omega
        have m1 : min (i : Int) 64 = 64 := by omega
        clear p1 p2
        clear t0 hc hi hlt
        refine wp_start (w := wr) ?_
        intro x
        go_wp2_with (first | (go_at_call 25; refine (known03 _).mono ?_; rintro e wr ⟨rfl, hbr⟩; obtain ⟨y, rfl⟩ := Ext.step _ hbr; clear hbr) | (go_at_call 32; refine (regs_any b bm M c _ (HA.out.ext (Ext.ok _)) HML).mono ?_; rintro e wq ⟨d, hp, _, ⟨v, rfl, hR⟩, hbr⟩; obtain ⟨sa, cap, rfl, _⟩ := hR.v; have hds := (show d.size = M.length by simpa using hp.length_eq).trans hN.out; rw [hds]; clear hds hR hp; obtain ⟨y, rfl⟩ := Ext.step _ hbr; clear hbr) | (go_at_call 31; refine (attach_val b _ _ _ _ _ (by assumption) _ (by assumption)).mono ?_; rintro e wq ⟨rfl, hbr⟩; obtain ⟨y, rfl⟩ := Ext.step _ hbr; clear hbr))
        go_ret
        exact ⟨rfl, below_then HB.out (Ext.ok _)⟩
end Go.Proofs.Ytgkklgebgabncaa
