/- Parts of a histogram: the walk of the law HistParts. -/
import Derived.Test.YtaihebdjhbnhoaaHistN
namespace Go.Proofs.Ytaihebdjhbnhoaa
open Go.RowKit
set_option linter.unusedVariables false
set_option linter.unusedSimpArgs false

/-- The first numbers of a slice. -/
def firstL (zs : List Int) (n : Nat) : List Int := (List.range n).map fun k => zs.getD k 0
theorem firstL_length (zs : List Int) (n : Nat) : (firstL zs n).length = n := by simp [firstL]
theorem firstL_good {zs : List Int} (h : ∀ k, 0 ≤ zs.getD k 0 ∧ zs.getD k 0 ≤ 18446744073709551615) (n : Nat) : GoodL (firstL zs n) := by
  intro x hx
  obtain ⟨k, _, rfl⟩ := List.mem_map.1 hx
  exact h k
theorem mod_in {a u : Int} (h : wrap64 ((IntKind.u64.wrap a).tmod 1001) = u) : 0 ≤ u ∧ u ≤ 1000 := by
  rw [IntKind.wrap_u64] at h
  unfold wrap64 at h
  have h0 : 0 ≤ a % 18446744073709551616 := Int.emod_nonneg _ (by decide)
  rw [Int.tmod_eq_emod_of_nonneg h0] at h
  have h1 := Int.emod_nonneg (a % 18446744073709551616) (b := 1001) (by decide)
  have h2 := Int.emod_lt_of_pos (a % 18446744073709551616) (b := 1001) (by decide)
  omega
theorem sliceAt_first {w w1 : World} {a : Option Addr} {zs : List Int} {len n b : Nat} (hz : 0 < len → ∃ p, a = some p ∧ p.block < w.heap.size ∧ ∀ k, k < len → w.cell? (p.add k) = some (.int .u64 (zs.getD k 0))) (hn : n ≤ len) (hB : Below w.heap.size w w1) (hb : w.heap.size ≤ b) :
    SliceAt w1 a (firstL zs n) b := by
  intro h0
  rw [firstL_length] at h0
  obtain ⟨p, rfl, hp, hc⟩ := hz (by omega)
  refine ⟨p, rfl, Nat.lt_of_lt_of_le hp hB.size, by omega, fun k hk => ?_⟩
  rw [firstL_length] at hk
  rw [hB.cell (by rw [addr_block]; exact hp), hc k (by omega)]
  simp [firstL]
set_option maxHeartbeats 4000000 in
set_option maxRecDepth 100000 in
theorem HistParts_walk (a : Option Addr) (len cap : Nat) (zs : List Int) (pa pb : Int) (W : World) (hcap : len ≤ cap) (hlen : cap ≤ 9223372036854775807)
    (hz : 0 < len → ∃ p, a = some p ∧ p.block < W.heap.size ∧ ∀ k, k < len → W.cell? (p.add k) = some (.int .u64 (zs.getD k 0))) (hg : ∀ k, 0 ≤ zs.getD k 0 ∧ zs.getD k 0 ≤ 18446744073709551615)
    (a0 : -9223372036854775808 ≤ pa) (a1 : pa ≤ 9223372036854775807) (b0 : -9223372036854775808 ≤ pb) (b1 : pb ≤ 9223372036854775807) :
    Calls Try.prog 4 #[.slice a len cap, .int .i64 pa, .int .i64 pb] W fun e w' => e = .returned (.bool true) ∧ Below W.heap.size W w' := by
  obtain ⟨n, hn⟩ : ∃ n, n = min len 60 := ⟨_, rfl⟩
  have hn1 : n ≤ len := by omega
  have hn2 : n ≤ 60 := by omega
  have HG := Lib.hid (firstL_good hg n)
  have HZ := Lib.hid hz
  have HLN : Hid ((firstL zs n).length ≤ 1000000) := by rw [firstL_length]; show n ≤ 1000000; omega
  have hmn : min (len : Int) 60 = (n : Int) := by omega
  have hnc : n ≤ cap := by omega
  clear hg hz hn hcap
  go_enter Try.func4, Try.ntmps4
  go_wp2_with fail
  refine (new_L _).mono ?_
  rintro e w1 ⟨b, rfl, hb, hA, hB⟩
  have HA1 := Lib.hid hA
  have HB1 := Lib.hid hB
  clear hA hB
  go_wp2_with fail
  have hS := sliceAt_first HZ.out hn1 HB1.out hb
  have hadd := adds_any b [] (firstL zs n) a cap w1 HA1.out (by intro x hx; cases hx) HG.out (by rw [firstL_length]; simp; omega) hS
  rw [firstL_length, List.nil_append] at hadd
  refine hadd.mono ?_
  rintro e w2 ⟨rfl, hA, hBt⟩
  have hB := below_but HB1.out hBt hb HB1.out.size
  have HA := Lib.hid hA
  have HB := Lib.hid hB
  clear hA hBt hB hS hadd HA1 HB1 hb HZ
  obtain ⟨u0, u1⟩ := mod_in (a := pa) rfl
  obtain ⟨v0, v1⟩ := mod_in (a := pb) rfl
  go_upto_region 7 with fail
  refine wp_start (w := w2) ?_
  intro x
  by_cases hn0 : n = 0
  · have e0 : firstL zs n = [] := by rw [hn0]; rfl
    have p1 : partI (firstL zs n) (min (wrap64 ((IntKind.u64.wrap pa).tmod 1001)) (wrap64 ((IntKind.u64.wrap pb).tmod 1001))) = (0, 0, false) := by rw [e0]; rfl
    have p2 : partI (firstL zs n) (max (wrap64 ((IntKind.u64.wrap pa).tmod 1001)) (wrap64 ((IntKind.u64.wrap pb).tmod 1001))) = (0, 0, false) := by rw [e0]; rfl
    have g0 : ((n : Int) == 0) = true := by simp; omega
    have g1 : (n == 0) = true := by simp; omega
    clear hn0 e0
    go_wp2_with (first | (go_at_call 23; refine (count_L b (firstL zs n) _ (HistAt.ext HA.out (Ext.ok _)) HG.out).mono ?_; rintro e wr ⟨rfl, hbr⟩; obtain ⟨y, rfl⟩ := Ext.step _ hbr; clear hbr) | (go_at_call 25; refine (sum_L b (firstL zs n) _ (HistAt.ext HA.out (Ext.ok _)) HG.out).mono ?_; rintro e wr ⟨rfl, hbr⟩; obtain ⟨y, rfl⟩ := Ext.step _ hbr; clear hbr) | (go_at_call 17; refine (least_L b (firstL zs n) _ (HistAt.ext HA.out (Ext.ok _)) HG.out).mono ?_; rintro e wr ⟨rfl, hbr⟩; obtain ⟨y, rfl⟩ := Ext.step _ hbr; clear hbr) | (go_at_call 18; refine (most_L b (firstL zs n) _ (HistAt.ext HA.out (Ext.ok _)) HG.out).mono ?_; rintro e wr ⟨rfl, hbr⟩; obtain ⟨y, rfl⟩ := Ext.step _ hbr; clear hbr) | (go_at_call 24; refine (bucket_L b (firstL zs n) _ _ (HistAt.ext HA.out (Ext.ok _)) (by omega) (by omega)).mono ?_; rintro e wr ⟨rfl, hbr⟩; obtain ⟨y, rfl⟩ := Ext.step _ hbr; clear hbr) | (go_at_call 16; refine (part_L b (firstL zs n) _ _ (HistAt.ext HA.out (Ext.ok _)) HG.out HLN.out).mono ?_; rintro e wr ⟨rfl, hbr⟩; obtain ⟨y, rfl⟩ := Ext.step _ hbr; clear hbr) | (go_at_call 13; refine (known33 _).mono ?_; rintro e wr ⟨rfl, hbr⟩; obtain ⟨y, rfl⟩ := Ext.step _ hbr; clear hbr))
    go_ret
    exact ⟨rfl, below_then HB.out (Ext.ok _)⟩
  · have e0 : firstL zs n ≠ [] := by intro h; have := congrArg List.length h; rw [firstL_length] at this; exact hn0 this
    obtain ⟨x1, x2, y1, y2, k1, k2, k3, k4, p1, p2, p3, p4, q1, q2, q3, q4, q5, q6⟩ := parts_plain (p := min (wrap64 ((IntKind.u64.wrap pa).tmod 1001)) (wrap64 ((IntKind.u64.wrap pb).tmod 1001))) (q := max (wrap64 ((IntKind.u64.wrap pa).tmod 1001)) (wrap64 ((IntKind.u64.wrap pb).tmod 1001))) HG.out e0 (by omega) (by omega) (by omega)
    have t1 : decide (x1 ≤ y2) = true := by simpa using q1
    have t2 : decide (x1 ≤ y1) = true := by simpa using q2
    have t3 : decide (k1 ≤ minL (firstL zs n)) = true := by simpa using q3
    have t4 : decide (minL (firstL zs n) ≤ k2) = true := by simpa using q4
    have t5 : decide (k3 ≤ maxL (firstL zs n)) = true := by simpa using q5
    have t6 : decide (maxL (firstL zs n) ≤ k4) = true := by simpa using q6
    have g0 : ((n : Int) == 0) = false := by simp; omega
    have g1 : (n == 0) = false := by simp; omega
    clear hn0 e0
    go_wp2_with (first | (go_at_call 23; refine (count_L b (firstL zs n) _ (HistAt.ext HA.out (Ext.ok _)) HG.out).mono ?_; rintro e wr ⟨rfl, hbr⟩; obtain ⟨y, rfl⟩ := Ext.step _ hbr; clear hbr) | (go_at_call 25; refine (sum_L b (firstL zs n) _ (HistAt.ext HA.out (Ext.ok _)) HG.out).mono ?_; rintro e wr ⟨rfl, hbr⟩; obtain ⟨y, rfl⟩ := Ext.step _ hbr; clear hbr) | (go_at_call 17; refine (least_L b (firstL zs n) _ (HistAt.ext HA.out (Ext.ok _)) HG.out).mono ?_; rintro e wr ⟨rfl, hbr⟩; obtain ⟨y, rfl⟩ := Ext.step _ hbr; clear hbr) | (go_at_call 18; refine (most_L b (firstL zs n) _ (HistAt.ext HA.out (Ext.ok _)) HG.out).mono ?_; rintro e wr ⟨rfl, hbr⟩; obtain ⟨y, rfl⟩ := Ext.step _ hbr; clear hbr) | (go_at_call 24; refine (bucket_L b (firstL zs n) _ _ (HistAt.ext HA.out (Ext.ok _)) (by omega) (by omega)).mono ?_; rintro e wr ⟨rfl, hbr⟩; obtain ⟨y, rfl⟩ := Ext.step _ hbr; clear hbr) | (go_at_call 16; refine (part_L b (firstL zs n) _ _ (HistAt.ext HA.out (Ext.ok _)) HG.out HLN.out).mono ?_; rintro e wr ⟨rfl, hbr⟩; obtain ⟨y, rfl⟩ := Ext.step _ hbr; clear hbr) | (go_at_call 13; refine (known33 _).mono ?_; rintro e wr ⟨rfl, hbr⟩; obtain ⟨y, rfl⟩ := Ext.step _ hbr; clear hbr))
    go_ret
    exact ⟨rfl, below_then HB.out (Ext.ok _)⟩
end Go.Proofs.Ytaihebdjhbnhoaa
