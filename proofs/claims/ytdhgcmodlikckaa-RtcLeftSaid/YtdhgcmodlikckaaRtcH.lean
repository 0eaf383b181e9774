/- Seconds and alarms by two words: the walk of the law RtcSets. -/
import Derived.Test.YtdhgcmodlikckaaRtcG
namespace Go.Proofs.Ytdhgcmodlikckaa
open Go.RowKit
set_option linter.unusedVariables false
set_option linter.unusedSimpArgs false

theorem St.raise_off (s s1 : St) (h : s1.en = false) : s.raise s1 = s1 := by
  rw [St.raise, if_neg]
  unfold St.metB
  rw [h]
  simp
theorem st8 (s : St) (v : Int) (h : s.en = false) : s.store 8 v = ({ s with set := v }, 0) := by
  rw [← St.raise_off s { s with set := v } h]; rfl
theorem st12 (s : St) (v : Int) (h : s.en = false) : s.store 12 v = ({ s with sec := v * 4294967296 + s.set, rest := 0 }, 0) := by
  rw [← St.raise_off s { s with sec := v * 4294967296 + s.set, rest := 0 } h]; rfl
theorem st16 (s : St) (v : Int) (h : s.en = false) : s.store 16 v = ({ s with alarm := s.alarm / 4294967296 * 4294967296 + v }, 0) := by
  rw [← St.raise_off s { s with alarm := s.alarm / 4294967296 * 4294967296 + v } h]; rfl
theorem st20 (s : St) (v : Int) (h : s.en = false) : s.store 20 v = ({ s with alarm := v * 4294967296 + s.alarm % 4294967296 }, 0) := by
  rw [← St.raise_off s { s with alarm := v * 4294967296 + s.alarm % 4294967296 } h]; rfl
theorem tk (s : St) (h : s.en = false) (n : Int) : s.raise (s.tick n) = ⟨addI s.sec (n / s.div + (s.rest + n % s.div) / s.div), s.alarm, (s.rest + n % s.div) % s.div, s.set, false, s.ra, s.div⟩ := by
  rw [St.raise_off s (s.tick n) h]
  unfold St.tick
  rw [← h]
theorem st24 (c a l d : Int) : (⟨c, a, 0, l, false, false, d⟩ : St).store 24 1 = (⟨c, a, 0, l, true, decide (a ≤ c), d⟩, 0) := by
  have h : (⟨c, a, 0, l, false, false, d⟩ : St).store 24 1 = ((⟨c, a, 0, l, false, false, d⟩ : St).raise ⟨c, a, 0, l, true, false, d⟩, 0) := rfl
  rw [h]
  unfold St.raise St.metB
  by_cases hc : a ≤ c
  · simp [hc]
  · simp [hc]
theorem tk1 (c a l d : Int) (hd : 1 ≤ d) (c0 : 0 ≤ c) (c1 : c ≤ 18446744073709551615) (a1 : a ≤ 18446744073709551615) : (⟨c, a, 0, l, true, decide (a ≤ c), d⟩ : St).raise ((⟨c, a, 0, l, true, decide (a ≤ c), d⟩ : St).tick d) = ⟨addI c 1, a, 0, l, true, decide (a ≤ addI c 1), d⟩ := by
  have e1 : d / d + (0 + d % d) / d = 1 := by rw [Int.emod_self, Int.ediv_self (by omega)]; simp
  have e2 : (0 + d % d) % d = 0 := by rw [Int.emod_self]; simp
  have e3 : (⟨c, a, 0, l, true, decide (a ≤ c), d⟩ : St).tick d = ⟨addI c 1, a, 0, l, true, decide (a ≤ c), d⟩ := by
    unfold St.tick
    dsimp only
    rw [e1, e2]
  rw [e3]
  unfold St.raise St.metB
  by_cases hc : a ≤ c
  · by_cases h2 : a ≤ addI c 1
    · simp [hc, h2]
    · exfalso; unfold addI at h2; split at h2 <;> omega
  · by_cases h2 : a ≤ addI c 1
    · simp [hc, h2]
    · simp [hc, h2]
set_option maxHeartbeats 4000000 in
set_option maxRecDepth 100000 in
theorem RtcSets_walk (dv sec alarm : Int) (upper : Bool) (n : Int) (W : World) (d0 : 0 ≤ dv) (d1 : dv ≤ 4294967295) (s0 : 0 ≤ sec) (s1 : sec ≤ 18446744073709551615) (a0 : 0 ≤ alarm) (a1 : alarm ≤ 18446744073709551615) (n0 : 0 ≤ n) (n1 : n ≤ 18446744073709551615) :
    Calls Try.prog 3 #[.int .u32 dv, .int .u64 sec, .int .u64 alarm, .bool upper, .int .u64 n] W fun e w' => e = .returned (.bool true) ∧ Below W.heap.size W w' := by
  by_cases hz : dv = 0
  · subst hz
    by_cases hm : sec = 18446744073709551615
    · have HM := Lib.hid hm
      clear hm
      cases upper
      · go_enter Try.func3, Try.ntmps3
        go_wp2_with fail
        refine (new_any 1 _ (by omega) (by omega)).mono ?_
        rintro e w1 ⟨b, rfl, hb, hR, hB1⟩
        have HB1 := Lib.hid hB1
        have ok0 : (⟨0, 0, 0, 0, false, false, 1⟩ : St).ok := by constructor <;> dsimp only <;> omega
        clear hB1
        go_wp2_with fail
        have ok1 := St.raise_ok ⟨0, 0, 0, 0, false, false, 1⟩ _ (St.tick_ok _ ok0 (n % 1099511627776) (by omega) (by omega))
        refine (tick_any b _ ok0 (n % 1099511627776) _ (by omega) (by omega) hR).mono ?_
        rw [tk _ rfl] at ok1 ⊢
        rintro e w2 ⟨rfl, hR, hF⟩
        generalize addI _ _ = X at ok1 hR
        generalize (_ : Int) % _ = Y at ok1 hR
        dsimp only at ok1 hR
        go_wp2_with fail
        have ok2 := St.store_ok _ ok1 8 (sec % 4294967296) (by omega) (by omega)
        refine (store_any b _ ok1 8 (sec % 4294967296) _ (by omega) (by omega) (by omega) (by omega) hR).mono ?_
        rw [st8 _ _ rfl] at ok2 ⊢
        rintro e w3 ⟨rfl, hR', hF'⟩
        replace hF := hF.trans hF'
        clear ok1 hR hF'
        dsimp only at ok2 hR'
        have ok1 := ok2
        have hR := hR'
        clear ok2 hR'
        go_wp2_with fail
        have ok2 := St.store_ok _ ok1 12 (sec / 4294967296) (by omega) (by omega)
        refine (store_any b _ ok1 12 (sec / 4294967296) _ (by omega) (by omega) (by omega) (by omega) hR).mono ?_
        rw [st12 _ _ rfl] at ok2 ⊢
        rintro e w4 ⟨rfl, hR', hF'⟩
        replace hF := hF.trans hF'
        clear ok1 hR hF'
        dsimp only at ok2 hR'
        rw [join_parts] at ok2 hR'
        have ok1 := ok2
        have hR := hR'
        clear ok2 hR'
        go_wp2_with fail
        refine (seconds_any b _ _ hR).mono ?_
        rintro e w5 ⟨rfl, hb'⟩
        replace hR := RtcAt.ext hR hb'
        replace hF := hF.trans (but_of hb' b)
        clear hb'
        go_wp2_with fail
        refine (rest_any b _ _ hR).mono ?_
        rintro e w6 ⟨rfl, hb'⟩
        replace hR := RtcAt.ext hR hb'
        replace hF := hF.trans (but_of hb' b)
        clear hb'
        go_wp2_with fail
        have ok2 := St.store_ok _ ok1 16 (alarm % 4294967296) (by omega) (by omega)
        refine (store_any b _ ok1 16 (alarm % 4294967296) _ (by omega) (by omega) (by omega) (by omega) hR).mono ?_
        rw [st16 _ _ rfl] at ok2 ⊢
        rintro e w7 ⟨rfl, hR', hF'⟩
        replace hF := hF.trans hF'
        clear ok1 hR hF'
        dsimp only at ok2 hR'
        have ok1 := ok2
        have hR := hR'
        clear ok2 hR'
        go_wp2_with fail
        have ok2 := St.store_ok _ ok1 20 (alarm / 4294967296) (by omega) (by omega)
        refine (store_any b _ ok1 20 (alarm / 4294967296) _ (by omega) (by omega) (by omega) (by omega) hR).mono ?_
        rw [st20 _ _ rfl] at ok2 ⊢
        rintro e w8 ⟨rfl, hR', hF'⟩
        replace hF := hF.trans hF'
        clear ok1 hR hF'
        dsimp only at ok2 hR'
        rw [show ∀ q : Int, alarm / 4294967296 * 4294967296 + (q * 4294967296 + alarm % 4294967296) % 4294967296 = alarm by intro q; omega] at ok2 hR'
        have ok1 := ok2
        have hR := hR'
        clear ok2 hR'
        go_wp2_with fail
        refine (alarm_any b _ _ hR).mono ?_
        rintro e w9 ⟨rfl, hb'⟩
        replace hR := RtcAt.ext hR hb'
        replace hF := hF.trans (but_of hb' b)
        clear hb'
        go_wp2_with fail
        refine (raised_any b _ _ hR).mono ?_
        rintro e w10 ⟨rfl, hb'⟩
        replace hR := RtcAt.ext hR hb'
        replace hF := hF.trans (but_of hb' b)
        clear hb'
        go_wp2_with fail
        have ok2 := St.store_ok _ ok1 24 (1) (by omega) (by omega)
        refine (store_any b _ ok1 24 (1) _ (by omega) (by omega) (by omega) (by omega) hR).mono ?_
        rw [st24] at ok2 ⊢
        rintro e w11 ⟨rfl, hR', hF'⟩
        replace hF := hF.trans hF'
        clear ok1 hR hF'
        dsimp only at ok2 hR'
        obtain ⟨Z, hZ⟩ : ∃ Z, decide (alarm ≤ sec) = Z := ⟨_, rfl⟩
        have ok1 := ok2
        have hR := hR'
        clear ok2 hR'
        go_wp2_with fail
        refine (raised_any b _ _ hR).mono ?_
        rintro e w12 ⟨rfl, hb'⟩
        replace hR := RtcAt.ext hR hb'
        replace hF := hF.trans (but_of hb' b)
        clear hb'
        go_wp2_with fail
        refine (tick_any b _ ok1 1 _ (by omega) (by omega) hR).mono ?_
        rw [tk1 _ _ _ _ (by omega) (by omega) (by omega) a1]
        rintro e w13 ⟨rfl, hR', hF'⟩
        replace hF := hF.trans hF'
        clear ok1 hR hF' hZ
        have hR := hR'
        clear hR'
        go_wp2_with fail
        refine (known10 _).mono ?_
        rintro e w14 ⟨rfl, hb'⟩
        replace hR := RtcAt.ext hR hb'
        replace hF := hF.trans (but_of hb' b)
        clear hb'
        go_wp2_with fail
        obtain rfl : sec = 18446744073709551615 := HM.out
        have ha : addI 18446744073709551615 1 = 18446744073709551615 := rfl
        rw [ha] at hR
        clear ha
        refine (seconds_any b _ _ hR).mono ?_
        rintro e w15 ⟨rfl, hb'⟩
        replace hR := RtcAt.ext hR hb'
        replace hF := hF.trans (but_of hb' b)
        clear hb'
        go_wp2_with fail
        refine (seconds_any b _ _ hR).mono ?_
        rintro e w16 ⟨rfl, hb'⟩
        replace hR := RtcAt.ext hR hb'
        replace hF := hF.trans (but_of hb' b)
        clear hb'
        go_wp2_with fail
        refine (raised_any b _ _ hR).mono ?_
        rintro e w17 ⟨rfl, hb'⟩
        replace hR := RtcAt.ext hR hb'
        replace hF := hF.trans (but_of hb' b)
        clear hb'
        go_wp2_with fail
        refine (seconds_any b _ _ hR).mono ?_
        rintro e w18 ⟨rfl, hb'⟩
        replace hR := RtcAt.ext hR hb'
        replace hF := hF.trans (but_of hb' b)
        clear hb'
        go_wp2_with fail
        go_ret
        exact ⟨rfl, But.below HB1.out hF hb HB1.out.size⟩
      · go_enter Try.func3, Try.ntmps3
        go_wp2_with fail
        refine (new_any 1 _ (by omega) (by omega)).mono ?_
        rintro e w1 ⟨b, rfl, hb, hR, hB1⟩
        have HB1 := Lib.hid hB1
        have ok0 : (⟨0, 0, 0, 0, false, false, 1⟩ : St).ok := by constructor <;> dsimp only <;> omega
        clear hB1
        go_wp2_with fail
        have ok1 := St.raise_ok ⟨0, 0, 0, 0, false, false, 1⟩ _ (St.tick_ok _ ok0 (n % 1099511627776) (by omega) (by omega))
        refine (tick_any b _ ok0 (n % 1099511627776) _ (by omega) (by omega) hR).mono ?_
        rw [tk _ rfl] at ok1 ⊢
        rintro e w2 ⟨rfl, hR, hF⟩
        generalize addI _ _ = X at ok1 hR
        generalize (_ : Int) % _ = Y at ok1 hR
        dsimp only at ok1 hR
        go_wp2_with fail
        have ok2 := St.store_ok _ ok1 8 (sec % 4294967296) (by omega) (by omega)
        refine (store_any b _ ok1 8 (sec % 4294967296) _ (by omega) (by omega) (by omega) (by omega) hR).mono ?_
        rw [st8 _ _ rfl] at ok2 ⊢
        rintro e w3 ⟨rfl, hR', hF'⟩
        replace hF := hF.trans hF'
        clear ok1 hR hF'
        dsimp only at ok2 hR'
        have ok1 := ok2
        have hR := hR'
        clear ok2 hR'
        go_wp2_with fail
        have ok2 := St.store_ok _ ok1 12 (sec / 4294967296) (by omega) (by omega)
        refine (store_any b _ ok1 12 (sec / 4294967296) _ (by omega) (by omega) (by omega) (by omega) hR).mono ?_
        rw [st12 _ _ rfl] at ok2 ⊢
        rintro e w4 ⟨rfl, hR', hF'⟩
        replace hF := hF.trans hF'
        clear ok1 hR hF'
        dsimp only at ok2 hR'
        rw [join_parts] at ok2 hR'
        have ok1 := ok2
        have hR := hR'
        clear ok2 hR'
        go_wp2_with fail
        refine (seconds_any b _ _ hR).mono ?_
        rintro e w5 ⟨rfl, hb'⟩
        replace hR := RtcAt.ext hR hb'
        replace hF := hF.trans (but_of hb' b)
        clear hb'
        go_wp2_with fail
        refine (rest_any b _ _ hR).mono ?_
        rintro e w6 ⟨rfl, hb'⟩
        replace hR := RtcAt.ext hR hb'
        replace hF := hF.trans (but_of hb' b)
        clear hb'
        go_wp2_with fail
        have ok2 := St.store_ok _ ok1 20 (alarm / 4294967296) (by omega) (by omega)
        refine (store_any b _ ok1 20 (alarm / 4294967296) _ (by omega) (by omega) (by omega) (by omega) hR).mono ?_
        rw [st20 _ _ rfl] at ok2 ⊢
        rintro e w7 ⟨rfl, hR', hF'⟩
        replace hF := hF.trans hF'
        clear ok1 hR hF'
        dsimp only at ok2 hR'
        have ok1 := ok2
        have hR := hR'
        clear ok2 hR'
        go_wp2_with fail
        have ok2 := St.store_ok _ ok1 16 (alarm % 4294967296) (by omega) (by omega)
        refine (store_any b _ ok1 16 (alarm % 4294967296) _ (by omega) (by omega) (by omega) (by omega) hR).mono ?_
        rw [st16 _ _ rfl] at ok2 ⊢
        rintro e w8 ⟨rfl, hR', hF'⟩
        replace hF := hF.trans hF'
        clear ok1 hR hF'
        dsimp only at ok2 hR'
        have ok1 := ok2
        have hR := hR'
        clear ok2 hR'
        go_wp2_with fail
        have ok2 := St.store_ok _ ok1 20 (alarm / 4294967296) (by omega) (by omega)
        refine (store_any b _ ok1 20 (alarm / 4294967296) _ (by omega) (by omega) (by omega) (by omega) hR).mono ?_
        rw [st20 _ _ rfl] at ok2 ⊢
        rintro e w9 ⟨rfl, hR', hF'⟩
        replace hF := hF.trans hF'
        clear ok1 hR hF'
        dsimp only at ok2 hR'
        rw [show ∀ q : Int, alarm / 4294967296 * 4294967296 + (q * 4294967296 + alarm % 4294967296) % 4294967296 = alarm by intro q; omega] at ok2 hR'
        have ok1 := ok2
        have hR := hR'
        clear ok2 hR'
        go_wp2_with fail
        refine (alarm_any b _ _ hR).mono ?_
        rintro e w10 ⟨rfl, hb'⟩
        replace hR := RtcAt.ext hR hb'
        replace hF := hF.trans (but_of hb' b)
        clear hb'
        go_wp2_with fail
        refine (raised_any b _ _ hR).mono ?_
        rintro e w11 ⟨rfl, hb'⟩
        replace hR := RtcAt.ext hR hb'
        replace hF := hF.trans (but_of hb' b)
        clear hb'
        go_wp2_with fail
        have ok2 := St.store_ok _ ok1 24 (1) (by omega) (by omega)
        refine (store_any b _ ok1 24 (1) _ (by omega) (by omega) (by omega) (by omega) hR).mono ?_
        rw [st24] at ok2 ⊢
        rintro e w12 ⟨rfl, hR', hF'⟩
        replace hF := hF.trans hF'
        clear ok1 hR hF'
        dsimp only at ok2 hR'
        obtain ⟨Z, hZ⟩ : ∃ Z, decide (alarm ≤ sec) = Z := ⟨_, rfl⟩
        have ok1 := ok2
        have hR := hR'
        clear ok2 hR'
        go_wp2_with fail
        refine (raised_any b _ _ hR).mono ?_
        rintro e w13 ⟨rfl, hb'⟩
        replace hR := RtcAt.ext hR hb'
        replace hF := hF.trans (but_of hb' b)
        clear hb'
        go_wp2_with fail
        refine (tick_any b _ ok1 1 _ (by omega) (by omega) hR).mono ?_
        rw [tk1 _ _ _ _ (by omega) (by omega) (by omega) a1]
        rintro e w14 ⟨rfl, hR', hF'⟩
        replace hF := hF.trans hF'
        clear ok1 hR hF' hZ
        have hR := hR'
        clear hR'
        go_wp2_with fail
        refine (known10 _).mono ?_
        rintro e w15 ⟨rfl, hb'⟩
        replace hR := RtcAt.ext hR hb'
        replace hF := hF.trans (but_of hb' b)
        clear hb'
        go_wp2_with fail
        obtain rfl : sec = 18446744073709551615 := HM.out
        have ha : addI 18446744073709551615 1 = 18446744073709551615 := rfl
        rw [ha] at hR
        clear ha
        refine (seconds_any b _ _ hR).mono ?_
        rintro e w16 ⟨rfl, hb'⟩
        replace hR := RtcAt.ext hR hb'
        replace hF := hF.trans (but_of hb' b)
        clear hb'
        go_wp2_with fail
        refine (seconds_any b _ _ hR).mono ?_
        rintro e w17 ⟨rfl, hb'⟩
        replace hR := RtcAt.ext hR hb'
        replace hF := hF.trans (but_of hb' b)
        clear hb'
        go_wp2_with fail
        refine (raised_any b _ _ hR).mono ?_
        rintro e w18 ⟨rfl, hb'⟩
        replace hR := RtcAt.ext hR hb'
        replace hF := hF.trans (but_of hb' b)
        clear hb'
        go_wp2_with fail
        refine (seconds_any b _ _ hR).mono ?_
        rintro e w19 ⟨rfl, hb'⟩
        replace hR := RtcAt.ext hR hb'
        replace hF := hF.trans (but_of hb' b)
        clear hb'
        go_wp2_with fail
        go_ret
        exact ⟨rfl, But.below HB1.out hF hb HB1.out.size⟩
    · cases upper
      · go_enter Try.func3, Try.ntmps3
        go_wp2_with fail
        refine (new_any 1 _ (by omega) (by omega)).mono ?_
        rintro e w1 ⟨b, rfl, hb, hR, hB1⟩
        have HB1 := Lib.hid hB1
        have ok0 : (⟨0, 0, 0, 0, false, false, 1⟩ : St).ok := by constructor <;> dsimp only <;> omega
        clear hB1
        go_wp2_with fail
        have ok1 := St.raise_ok ⟨0, 0, 0, 0, false, false, 1⟩ _ (St.tick_ok _ ok0 (n % 1099511627776) (by omega) (by omega))
        refine (tick_any b _ ok0 (n % 1099511627776) _ (by omega) (by omega) hR).mono ?_
        rw [tk _ rfl] at ok1 ⊢
        rintro e w2 ⟨rfl, hR, hF⟩
        generalize addI _ _ = X at ok1 hR
        generalize (_ : Int) % _ = Y at ok1 hR
        dsimp only at ok1 hR
        go_wp2_with fail
        have ok2 := St.store_ok _ ok1 8 (sec % 4294967296) (by omega) (by omega)
        refine (store_any b _ ok1 8 (sec % 4294967296) _ (by omega) (by omega) (by omega) (by omega) hR).mono ?_
        rw [st8 _ _ rfl] at ok2 ⊢
        rintro e w3 ⟨rfl, hR', hF'⟩
        replace hF := hF.trans hF'
        clear ok1 hR hF'
        dsimp only at ok2 hR'
        have ok1 := ok2
        have hR := hR'
        clear ok2 hR'
        go_wp2_with fail
        have ok2 := St.store_ok _ ok1 12 (sec / 4294967296) (by omega) (by omega)
        refine (store_any b _ ok1 12 (sec / 4294967296) _ (by omega) (by omega) (by omega) (by omega) hR).mono ?_
        rw [st12 _ _ rfl] at ok2 ⊢
        rintro e w4 ⟨rfl, hR', hF'⟩
        replace hF := hF.trans hF'
        clear ok1 hR hF'
        dsimp only at ok2 hR'
        rw [join_parts] at ok2 hR'
        have ok1 := ok2
        have hR := hR'
        clear ok2 hR'
        go_wp2_with fail
        refine (seconds_any b _ _ hR).mono ?_
        rintro e w5 ⟨rfl, hb'⟩
        replace hR := RtcAt.ext hR hb'
        replace hF := hF.trans (but_of hb' b)
        clear hb'
        go_wp2_with fail
        refine (rest_any b _ _ hR).mono ?_
        rintro e w6 ⟨rfl, hb'⟩
        replace hR := RtcAt.ext hR hb'
        replace hF := hF.trans (but_of hb' b)
        clear hb'
        go_wp2_with fail
        have ok2 := St.store_ok _ ok1 16 (alarm % 4294967296) (by omega) (by omega)
        refine (store_any b _ ok1 16 (alarm % 4294967296) _ (by omega) (by omega) (by omega) (by omega) hR).mono ?_
        rw [st16 _ _ rfl] at ok2 ⊢
        rintro e w7 ⟨rfl, hR', hF'⟩
        replace hF := hF.trans hF'
        clear ok1 hR hF'
        dsimp only at ok2 hR'
        have ok1 := ok2
        have hR := hR'
        clear ok2 hR'
        go_wp2_with fail
        have ok2 := St.store_ok _ ok1 20 (alarm / 4294967296) (by omega) (by omega)
        refine (store_any b _ ok1 20 (alarm / 4294967296) _ (by omega) (by omega) (by omega) (by omega) hR).mono ?_
        rw [st20 _ _ rfl] at ok2 ⊢
        rintro e w8 ⟨rfl, hR', hF'⟩
        replace hF := hF.trans hF'
        clear ok1 hR hF'
        dsimp only at ok2 hR'
        rw [show ∀ q : Int, alarm / 4294967296 * 4294967296 + (q * 4294967296 + alarm % 4294967296) % 4294967296 = alarm by intro q; omega] at ok2 hR'
        have ok1 := ok2
        have hR := hR'
        clear ok2 hR'
        go_wp2_with fail
        refine (alarm_any b _ _ hR).mono ?_
        rintro e w9 ⟨rfl, hb'⟩
        replace hR := RtcAt.ext hR hb'
        replace hF := hF.trans (but_of hb' b)
        clear hb'
        go_wp2_with fail
        refine (raised_any b _ _ hR).mono ?_
        rintro e w10 ⟨rfl, hb'⟩
        replace hR := RtcAt.ext hR hb'
        replace hF := hF.trans (but_of hb' b)
        clear hb'
        go_wp2_with fail
        have ok2 := St.store_ok _ ok1 24 (1) (by omega) (by omega)
        refine (store_any b _ ok1 24 (1) _ (by omega) (by omega) (by omega) (by omega) hR).mono ?_
        rw [st24] at ok2 ⊢
        rintro e w11 ⟨rfl, hR', hF'⟩
        replace hF := hF.trans hF'
        clear ok1 hR hF'
        dsimp only at ok2 hR'
        obtain ⟨Z, hZ⟩ : ∃ Z, decide (alarm ≤ sec) = Z := ⟨_, rfl⟩
        have ok1 := ok2
        have hR := hR'
        clear ok2 hR'
        go_wp2_with fail
        refine (raised_any b _ _ hR).mono ?_
        rintro e w12 ⟨rfl, hb'⟩
        replace hR := RtcAt.ext hR hb'
        replace hF := hF.trans (but_of hb' b)
        clear hb'
        go_wp2_with fail
        refine (tick_any b _ ok1 1 _ (by omega) (by omega) hR).mono ?_
        rw [tk1 _ _ _ _ (by omega) (by omega) (by omega) a1]
        rintro e w13 ⟨rfl, hR', hF'⟩
        replace hF := hF.trans hF'
        clear ok1 hR hF' hZ
        have hR := hR'
        clear hR'
        go_wp2_with fail
        refine (known10 _).mono ?_
        rintro e w14 ⟨rfl, hb'⟩
        replace hR := RtcAt.ext hR hb'
        replace hF := hF.trans (but_of hb' b)
        clear hb'
        go_wp2_with fail
        have ha : addI sec 1 = sec + 1 := by rw [addI, if_pos (by omega)]
        rw [ha] at hR
        clear ha
        refine (seconds_any b _ _ hR).mono ?_
        rintro e w15 ⟨rfl, hb'⟩
        replace hR := RtcAt.ext hR hb'
        replace hF := hF.trans (but_of hb' b)
        clear hb'
        go_wp2_with fail
        refine (raised_any b _ _ hR).mono ?_
        rintro e w16 ⟨rfl, hb'⟩
        replace hR := RtcAt.ext hR hb'
        replace hF := hF.trans (but_of hb' b)
        clear hb'
        go_wp2_with fail
        refine (seconds_any b _ _ hR).mono ?_
        rintro e w17 ⟨rfl, hb'⟩
        replace hR := RtcAt.ext hR hb'
        replace hF := hF.trans (but_of hb' b)
        clear hb'
        go_wp2_with fail
        go_ret
        exact ⟨rfl, But.below HB1.out hF hb HB1.out.size⟩
      · go_enter Try.func3, Try.ntmps3
        go_wp2_with fail
        refine (new_any 1 _ (by omega) (by omega)).mono ?_
        rintro e w1 ⟨b, rfl, hb, hR, hB1⟩
        have HB1 := Lib.hid hB1
        have ok0 : (⟨0, 0, 0, 0, false, false, 1⟩ : St).ok := by constructor <;> dsimp only <;> omega
        clear hB1
        go_wp2_with fail
        have ok1 := St.raise_ok ⟨0, 0, 0, 0, false, false, 1⟩ _ (St.tick_ok _ ok0 (n % 1099511627776) (by omega) (by omega))
        refine (tick_any b _ ok0 (n % 1099511627776) _ (by omega) (by omega) hR).mono ?_
        rw [tk _ rfl] at ok1 ⊢
        rintro e w2 ⟨rfl, hR, hF⟩
        generalize addI _ _ = X at ok1 hR
        generalize (_ : Int) % _ = Y at ok1 hR
        dsimp only at ok1 hR
        go_wp2_with fail
        have ok2 := St.store_ok _ ok1 8 (sec % 4294967296) (by omega) (by omega)
        refine (store_any b _ ok1 8 (sec % 4294967296) _ (by omega) (by omega) (by omega) (by omega) hR).mono ?_
        rw [st8 _ _ rfl] at ok2 ⊢
        rintro e w3 ⟨rfl, hR', hF'⟩
        replace hF := hF.trans hF'
        clear ok1 hR hF'
        dsimp only at ok2 hR'
        have ok1 := ok2
        have hR := hR'
        clear ok2 hR'
        go_wp2_with fail
        have ok2 := St.store_ok _ ok1 12 (sec / 4294967296) (by omega) (by omega)
        refine (store_any b _ ok1 12 (sec / 4294967296) _ (by omega) (by omega) (by omega) (by omega) hR).mono ?_
        rw [st12 _ _ rfl] at ok2 ⊢
        rintro e w4 ⟨rfl, hR', hF'⟩
        replace hF := hF.trans hF'
        clear ok1 hR hF'
        dsimp only at ok2 hR'
        rw [join_parts] at ok2 hR'
        have ok1 := ok2
        have hR := hR'
        clear ok2 hR'
        go_wp2_with fail
        refine (seconds_any b _ _ hR).mono ?_
        rintro e w5 ⟨rfl, hb'⟩
        replace hR := RtcAt.ext hR hb'
        replace hF := hF.trans (but_of hb' b)
        clear hb'
        go_wp2_with fail
        refine (rest_any b _ _ hR).mono ?_
        rintro e w6 ⟨rfl, hb'⟩
        replace hR := RtcAt.ext hR hb'
        replace hF := hF.trans (but_of hb' b)
        clear hb'
        go_wp2_with fail
        have ok2 := St.store_ok _ ok1 20 (alarm / 4294967296) (by omega) (by omega)
        refine (store_any b _ ok1 20 (alarm / 4294967296) _ (by omega) (by omega) (by omega) (by omega) hR).mono ?_
        rw [st20 _ _ rfl] at ok2 ⊢
        rintro e w7 ⟨rfl, hR', hF'⟩
        replace hF := hF.trans hF'
        clear ok1 hR hF'
        dsimp only at ok2 hR'
        have ok1 := ok2
        have hR := hR'
        clear ok2 hR'
        go_wp2_with fail
        have ok2 := St.store_ok _ ok1 16 (alarm % 4294967296) (by omega) (by omega)
        refine (store_any b _ ok1 16 (alarm % 4294967296) _ (by omega) (by omega) (by omega) (by omega) hR).mono ?_
        rw [st16 _ _ rfl] at ok2 ⊢
        rintro e w8 ⟨rfl, hR', hF'⟩
        replace hF := hF.trans hF'
        clear ok1 hR hF'
        dsimp only at ok2 hR'
        have ok1 := ok2
        have hR := hR'
        clear ok2 hR'
        go_wp2_with fail
        have ok2 := St.store_ok _ ok1 20 (alarm / 4294967296) (by omega) (by omega)
        refine (store_any b _ ok1 20 (alarm / 4294967296) _ (by omega) (by omega) (by omega) (by omega) hR).mono ?_
        rw [st20 _ _ rfl] at ok2 ⊢
        rintro e w9 ⟨rfl, hR', hF'⟩
        replace hF := hF.trans hF'
        clear ok1 hR hF'
        dsimp only at ok2 hR'
        rw [show ∀ q : Int, alarm / 4294967296 * 4294967296 + (q * 4294967296 + alarm % 4294967296) % 4294967296 = alarm by intro q; omega] at ok2 hR'
        have ok1 := ok2
        have hR := hR'
        clear ok2 hR'
        go_wp2_with fail
        refine (alarm_any b _ _ hR).mono ?_
        rintro e w10 ⟨rfl, hb'⟩
        replace hR := RtcAt.ext hR hb'
        replace hF := hF.trans (but_of hb' b)
        clear hb'
        go_wp2_with fail
        refine (raised_any b _ _ hR).mono ?_
        rintro e w11 ⟨rfl, hb'⟩
        replace hR := RtcAt.ext hR hb'
        replace hF := hF.trans (but_of hb' b)
        clear hb'
        go_wp2_with fail
        have ok2 := St.store_ok _ ok1 24 (1) (by omega) (by omega)
        refine (store_any b _ ok1 24 (1) _ (by omega) (by omega) (by omega) (by omega) hR).mono ?_
        rw [st24] at ok2 ⊢
        rintro e w12 ⟨rfl, hR', hF'⟩
        replace hF := hF.trans hF'
        clear ok1 hR hF'
        dsimp only at ok2 hR'
        obtain ⟨Z, hZ⟩ : ∃ Z, decide (alarm ≤ sec) = Z := ⟨_, rfl⟩
        have ok1 := ok2
        have hR := hR'
        clear ok2 hR'
        go_wp2_with fail
        refine (raised_any b _ _ hR).mono ?_
        rintro e w13 ⟨rfl, hb'⟩
        replace hR := RtcAt.ext hR hb'
        replace hF := hF.trans (but_of hb' b)
        clear hb'
        go_wp2_with fail
        refine (tick_any b _ ok1 1 _ (by omega) (by omega) hR).mono ?_
        rw [tk1 _ _ _ _ (by omega) (by omega) (by omega) a1]
        rintro e w14 ⟨rfl, hR', hF'⟩
        replace hF := hF.trans hF'
        clear ok1 hR hF' hZ
        have hR := hR'
        clear hR'
        go_wp2_with fail
        refine (known10 _).mono ?_
        rintro e w15 ⟨rfl, hb'⟩
        replace hR := RtcAt.ext hR hb'
        replace hF := hF.trans (but_of hb' b)
        clear hb'
        go_wp2_with fail
        have ha : addI sec 1 = sec + 1 := by rw [addI, if_pos (by omega)]
        rw [ha] at hR
        clear ha
        refine (seconds_any b _ _ hR).mono ?_
        rintro e w16 ⟨rfl, hb'⟩
        replace hR := RtcAt.ext hR hb'
        replace hF := hF.trans (but_of hb' b)
        clear hb'
        go_wp2_with fail
        refine (raised_any b _ _ hR).mono ?_
        rintro e w17 ⟨rfl, hb'⟩
        replace hR := RtcAt.ext hR hb'
        replace hF := hF.trans (but_of hb' b)
        clear hb'
        go_wp2_with fail
        refine (seconds_any b _ _ hR).mono ?_
        rintro e w18 ⟨rfl, hb'⟩
        replace hR := RtcAt.ext hR hb'
        replace hF := hF.trans (but_of hb' b)
        clear hb'
        go_wp2_with fail
        go_ret
        exact ⟨rfl, But.below HB1.out hF hb HB1.out.size⟩
  · have hd : 1 ≤ dv := by omega
    by_cases hm : sec = 18446744073709551615
    · have HM := Lib.hid hm
      clear hm
      cases upper
      · go_enter Try.func3, Try.ntmps3
        go_wp2_with fail
        refine (new_any dv _ (by omega) (by omega)).mono ?_
        rintro e w1 ⟨b, rfl, hb, hR, hB1⟩
        have HB1 := Lib.hid hB1
        have ok0 : (⟨0, 0, 0, 0, false, false, dv⟩ : St).ok := by constructor <;> dsimp only <;> omega
        clear hB1
        go_wp2_with fail
        have ok1 := St.raise_ok ⟨0, 0, 0, 0, false, false, dv⟩ _ (St.tick_ok _ ok0 (n % 1099511627776) (by omega) (by omega))
        refine (tick_any b _ ok0 (n % 1099511627776) _ (by omega) (by omega) hR).mono ?_
        rw [tk _ rfl] at ok1 ⊢
        rintro e w2 ⟨rfl, hR, hF⟩
        generalize addI _ _ = X at ok1 hR
        generalize (_ : Int) % _ = Y at ok1 hR
        dsimp only at ok1 hR
        go_wp2_with fail
        have ok2 := St.store_ok _ ok1 8 (sec % 4294967296) (by omega) (by omega)
        refine (store_any b _ ok1 8 (sec % 4294967296) _ (by omega) (by omega) (by omega) (by omega) hR).mono ?_
        rw [st8 _ _ rfl] at ok2 ⊢
        rintro e w3 ⟨rfl, hR', hF'⟩
        replace hF := hF.trans hF'
        clear ok1 hR hF'
        dsimp only at ok2 hR'
        have ok1 := ok2
        have hR := hR'
        clear ok2 hR'
        go_wp2_with fail
        have ok2 := St.store_ok _ ok1 12 (sec / 4294967296) (by omega) (by omega)
        refine (store_any b _ ok1 12 (sec / 4294967296) _ (by omega) (by omega) (by omega) (by omega) hR).mono ?_
        rw [st12 _ _ rfl] at ok2 ⊢
        rintro e w4 ⟨rfl, hR', hF'⟩
        replace hF := hF.trans hF'
        clear ok1 hR hF'
        dsimp only at ok2 hR'
        rw [join_parts] at ok2 hR'
        have ok1 := ok2
        have hR := hR'
        clear ok2 hR'
        go_wp2_with fail
        refine (seconds_any b _ _ hR).mono ?_
        rintro e w5 ⟨rfl, hb'⟩
        replace hR := RtcAt.ext hR hb'
        replace hF := hF.trans (but_of hb' b)
        clear hb'
        go_wp2_with fail
        refine (rest_any b _ _ hR).mono ?_
        rintro e w6 ⟨rfl, hb'⟩
        replace hR := RtcAt.ext hR hb'
        replace hF := hF.trans (but_of hb' b)
        clear hb'
        go_wp2_with fail
        have ok2 := St.store_ok _ ok1 16 (alarm % 4294967296) (by omega) (by omega)
        refine (store_any b _ ok1 16 (alarm % 4294967296) _ (by omega) (by omega) (by omega) (by omega) hR).mono ?_
        rw [st16 _ _ rfl] at ok2 ⊢
        rintro e w7 ⟨rfl, hR', hF'⟩
        replace hF := hF.trans hF'
        clear ok1 hR hF'
        dsimp only at ok2 hR'
        have ok1 := ok2
        have hR := hR'
        clear ok2 hR'
        go_wp2_with fail
        have ok2 := St.store_ok _ ok1 20 (alarm / 4294967296) (by omega) (by omega)
        refine (store_any b _ ok1 20 (alarm / 4294967296) _ (by omega) (by omega) (by omega) (by omega) hR).mono ?_
        rw [st20 _ _ rfl] at ok2 ⊢
        rintro e w8 ⟨rfl, hR', hF'⟩
        replace hF := hF.trans hF'
        clear ok1 hR hF'
        dsimp only at ok2 hR'
        rw [show ∀ q : Int, alarm / 4294967296 * 4294967296 + (q * 4294967296 + alarm % 4294967296) % 4294967296 = alarm by intro q; omega] at ok2 hR'
        have ok1 := ok2
        have hR := hR'
        clear ok2 hR'
        go_wp2_with fail
        refine (alarm_any b _ _ hR).mono ?_
        rintro e w9 ⟨rfl, hb'⟩
        replace hR := RtcAt.ext hR hb'
        replace hF := hF.trans (but_of hb' b)
        clear hb'
        go_wp2_with fail
        refine (raised_any b _ _ hR).mono ?_
        rintro e w10 ⟨rfl, hb'⟩
        replace hR := RtcAt.ext hR hb'
        replace hF := hF.trans (but_of hb' b)
        clear hb'
        go_wp2_with fail
        have ok2 := St.store_ok _ ok1 24 (1) (by omega) (by omega)
        refine (store_any b _ ok1 24 (1) _ (by omega) (by omega) (by omega) (by omega) hR).mono ?_
        rw [st24] at ok2 ⊢
        rintro e w11 ⟨rfl, hR', hF'⟩
        replace hF := hF.trans hF'
        clear ok1 hR hF'
        dsimp only at ok2 hR'
        obtain ⟨Z, hZ⟩ : ∃ Z, decide (alarm ≤ sec) = Z := ⟨_, rfl⟩
        have ok1 := ok2
        have hR := hR'
        clear ok2 hR'
        go_wp2_with fail
        refine (raised_any b _ _ hR).mono ?_
        rintro e w12 ⟨rfl, hb'⟩
        replace hR := RtcAt.ext hR hb'
        replace hF := hF.trans (but_of hb' b)
        clear hb'
        go_wp2_with fail
        refine (tick_any b _ ok1 dv _ (by omega) (by omega) hR).mono ?_
        rw [tk1 _ _ _ _ (by omega) (by omega) (by omega) a1]
        rintro e w13 ⟨rfl, hR', hF'⟩
        replace hF := hF.trans hF'
        clear ok1 hR hF' hZ
        have hR := hR'
        clear hR'
        go_wp2_with fail
        refine (known10 _).mono ?_
        rintro e w14 ⟨rfl, hb'⟩
        replace hR := RtcAt.ext hR hb'
        replace hF := hF.trans (but_of hb' b)
        clear hb'
        go_wp2_with fail
        obtain rfl : sec = 18446744073709551615 := HM.out
        have ha : addI 18446744073709551615 1 = 18446744073709551615 := rfl
        rw [ha] at hR
        clear ha
        refine (seconds_any b _ _ hR).mono ?_
        rintro e w15 ⟨rfl, hb'⟩
        replace hR := RtcAt.ext hR hb'
        replace hF := hF.trans (but_of hb' b)
        clear hb'
        go_wp2_with fail
        refine (seconds_any b _ _ hR).mono ?_
        rintro e w16 ⟨rfl, hb'⟩
        replace hR := RtcAt.ext hR hb'
        replace hF := hF.trans (but_of hb' b)
        clear hb'
        go_wp2_with fail
        refine (raised_any b _ _ hR).mono ?_
        rintro e w17 ⟨rfl, hb'⟩
        replace hR := RtcAt.ext hR hb'
        replace hF := hF.trans (but_of hb' b)
        clear hb'
        go_wp2_with fail
        refine (seconds_any b _ _ hR).mono ?_
        rintro e w18 ⟨rfl, hb'⟩
        replace hR := RtcAt.ext hR hb'
        replace hF := hF.trans (but_of hb' b)
        clear hb'
        go_wp2_with fail
        go_ret
        exact ⟨rfl, But.below HB1.out hF hb HB1.out.size⟩
      · go_enter Try.func3, Try.ntmps3
        go_wp2_with fail
        refine (new_any dv _ (by omega) (by omega)).mono ?_
        rintro e w1 ⟨b, rfl, hb, hR, hB1⟩
        have HB1 := Lib.hid hB1
        have ok0 : (⟨0, 0, 0, 0, false, false, dv⟩ : St).ok := by constructor <;> dsimp only <;> omega
        clear hB1
        go_wp2_with fail
        have ok1 := St.raise_ok ⟨0, 0, 0, 0, false, false, dv⟩ _ (St.tick_ok _ ok0 (n % 1099511627776) (by omega) (by omega))
        refine (tick_any b _ ok0 (n % 1099511627776) _ (by omega) (by omega) hR).mono ?_
        rw [tk _ rfl] at ok1 ⊢
        rintro e w2 ⟨rfl, hR, hF⟩
        generalize addI _ _ = X at ok1 hR
        generalize (_ : Int) % _ = Y at ok1 hR
        dsimp only at ok1 hR
        go_wp2_with fail
        have ok2 := St.store_ok _ ok1 8 (sec % 4294967296) (by omega) (by omega)
        refine (store_any b _ ok1 8 (sec % 4294967296) _ (by omega) (by omega) (by omega) (by omega) hR).mono ?_
        rw [st8 _ _ rfl] at ok2 ⊢
        rintro e w3 ⟨rfl, hR', hF'⟩
        replace hF := hF.trans hF'
        clear ok1 hR hF'
        dsimp only at ok2 hR'
        have ok1 := ok2
        have hR := hR'
        clear ok2 hR'
        go_wp2_with fail
        have ok2 := St.store_ok _ ok1 12 (sec / 4294967296) (by omega) (by omega)
        refine (store_any b _ ok1 12 (sec / 4294967296) _ (by omega) (by omega) (by omega) (by omega) hR).mono ?_
        rw [st12 _ _ rfl] at ok2 ⊢
        rintro e w4 ⟨rfl, hR', hF'⟩
        replace hF := hF.trans hF'
        clear ok1 hR hF'
        dsimp only at ok2 hR'
        rw [join_parts] at ok2 hR'
        have ok1 := ok2
        have hR := hR'
        clear ok2 hR'
        go_wp2_with fail
        refine (seconds_any b _ _ hR).mono ?_
        rintro e w5 ⟨rfl, hb'⟩
        replace hR := RtcAt.ext hR hb'
        replace hF := hF.trans (but_of hb' b)
        clear hb'
        go_wp2_with fail
        refine (rest_any b _ _ hR).mono ?_
        rintro e w6 ⟨rfl, hb'⟩
        replace hR := RtcAt.ext hR hb'
        replace hF := hF.trans (but_of hb' b)
        clear hb'
        go_wp2_with fail
        have ok2 := St.store_ok _ ok1 20 (alarm / 4294967296) (by omega) (by omega)
        refine (store_any b _ ok1 20 (alarm / 4294967296) _ (by omega) (by omega) (by omega) (by omega) hR).mono ?_
        rw [st20 _ _ rfl] at ok2 ⊢
        rintro e w7 ⟨rfl, hR', hF'⟩
        replace hF := hF.trans hF'
        clear ok1 hR hF'
        dsimp only at ok2 hR'
        have ok1 := ok2
        have hR := hR'
        clear ok2 hR'
        go_wp2_with fail
        have ok2 := St.store_ok _ ok1 16 (alarm % 4294967296) (by omega) (by omega)
        refine (store_any b _ ok1 16 (alarm % 4294967296) _ (by omega) (by omega) (by omega) (by omega) hR).mono ?_
        rw [st16 _ _ rfl] at ok2 ⊢
        rintro e w8 ⟨rfl, hR', hF'⟩
        replace hF := hF.trans hF'
        clear ok1 hR hF'
        dsimp only at ok2 hR'
        have ok1 := ok2
        have hR := hR'
        clear ok2 hR'
        go_wp2_with fail
        have ok2 := St.store_ok _ ok1 20 (alarm / 4294967296) (by omega) (by omega)
        refine (store_any b _ ok1 20 (alarm / 4294967296) _ (by omega) (by omega) (by omega) (by omega) hR).mono ?_
        rw [st20 _ _ rfl] at ok2 ⊢
        rintro e w9 ⟨rfl, hR', hF'⟩
        replace hF := hF.trans hF'
        clear ok1 hR hF'
        dsimp only at ok2 hR'
        rw [show ∀ q : Int, alarm / 4294967296 * 4294967296 + (q * 4294967296 + alarm % 4294967296) % 4294967296 = alarm by intro q; omega] at ok2 hR'
        have ok1 := ok2
        have hR := hR'
        clear ok2 hR'
        go_wp2_with fail
        refine (alarm_any b _ _ hR).mono ?_
        rintro e w10 ⟨rfl, hb'⟩
        replace hR := RtcAt.ext hR hb'
        replace hF := hF.trans (but_of hb' b)
        clear hb'
        go_wp2_with fail
        refine (raised_any b _ _ hR).mono ?_
        rintro e w11 ⟨rfl, hb'⟩
        replace hR := RtcAt.ext hR hb'
        replace hF := hF.trans (but_of hb' b)
        clear hb'
        go_wp2_with fail
        have ok2 := St.store_ok _ ok1 24 (1) (by omega) (by omega)
        refine (store_any b _ ok1 24 (1) _ (by omega) (by omega) (by omega) (by omega) hR).mono ?_
        rw [st24] at ok2 ⊢
        rintro e w12 ⟨rfl, hR', hF'⟩
        replace hF := hF.trans hF'
        clear ok1 hR hF'
        dsimp only at ok2 hR'
        obtain ⟨Z, hZ⟩ : ∃ Z, decide (alarm ≤ sec) = Z := ⟨_, rfl⟩
        have ok1 := ok2
        have hR := hR'
        clear ok2 hR'
        go_wp2_with fail
        refine (raised_any b _ _ hR).mono ?_
        rintro e w13 ⟨rfl, hb'⟩
        replace hR := RtcAt.ext hR hb'
        replace hF := hF.trans (but_of hb' b)
        clear hb'
        go_wp2_with fail
        refine (tick_any b _ ok1 dv _ (by omega) (by omega) hR).mono ?_
        rw [tk1 _ _ _ _ (by omega) (by omega) (by omega) a1]
        rintro e w14 ⟨rfl, hR', hF'⟩
        replace hF := hF.trans hF'
        clear ok1 hR hF' hZ
        have hR := hR'
        clear hR'
        go_wp2_with fail
        refine (known10 _).mono ?_
        rintro e w15 ⟨rfl, hb'⟩
        replace hR := RtcAt.ext hR hb'
        replace hF := hF.trans (but_of hb' b)
        clear hb'
        go_wp2_with fail
        obtain rfl : sec = 18446744073709551615 := HM.out
        have ha : addI 18446744073709551615 1 = 18446744073709551615 := rfl
        rw [ha] at hR
        clear ha
        refine (seconds_any b _ _ hR).mono ?_
        rintro e w16 ⟨rfl, hb'⟩
        replace hR := RtcAt.ext hR hb'
        replace hF := hF.trans (but_of hb' b)
        clear hb'
        go_wp2_with fail
        refine (seconds_any b _ _ hR).mono ?_
        rintro e w17 ⟨rfl, hb'⟩
        replace hR := RtcAt.ext hR hb'
        replace hF := hF.trans (but_of hb' b)
        clear hb'
        go_wp2_with fail
        refine (raised_any b _ _ hR).mono ?_
        rintro e w18 ⟨rfl, hb'⟩
        replace hR := RtcAt.ext hR hb'
        replace hF := hF.trans (but_of hb' b)
        clear hb'
        go_wp2_with fail
        refine (seconds_any b _ _ hR).mono ?_
        rintro e w19 ⟨rfl, hb'⟩
        replace hR := RtcAt.ext hR hb'
        replace hF := hF.trans (but_of hb' b)
        clear hb'
        go_wp2_with fail
        go_ret
        exact ⟨rfl, But.below HB1.out hF hb HB1.out.size⟩
    · cases upper
      · go_enter Try.func3, Try.ntmps3
        go_wp2_with fail
        refine (new_any dv _ (by omega) (by omega)).mono ?_
        rintro e w1 ⟨b, rfl, hb, hR, hB1⟩
        have HB1 := Lib.hid hB1
        have ok0 : (⟨0, 0, 0, 0, false, false, dv⟩ : St).ok := by constructor <;> dsimp only <;> omega
        clear hB1
        go_wp2_with fail
        have ok1 := St.raise_ok ⟨0, 0, 0, 0, false, false, dv⟩ _ (St.tick_ok _ ok0 (n % 1099511627776) (by omega) (by omega))
        refine (tick_any b _ ok0 (n % 1099511627776) _ (by omega) (by omega) hR).mono ?_
        rw [tk _ rfl] at ok1 ⊢
        rintro e w2 ⟨rfl, hR, hF⟩
        generalize addI _ _ = X at ok1 hR
        generalize (_ : Int) % _ = Y at ok1 hR
        dsimp only at ok1 hR
        go_wp2_with fail
        have ok2 := St.store_ok _ ok1 8 (sec % 4294967296) (by omega) (by omega)
        refine (store_any b _ ok1 8 (sec % 4294967296) _ (by omega) (by omega) (by omega) (by omega) hR).mono ?_
        rw [st8 _ _ rfl] at ok2 ⊢
        rintro e w3 ⟨rfl, hR', hF'⟩
        replace hF := hF.trans hF'
        clear ok1 hR hF'
        dsimp only at ok2 hR'
        have ok1 := ok2
        have hR := hR'
        clear ok2 hR'
        go_wp2_with fail
        have ok2 := St.store_ok _ ok1 12 (sec / 4294967296) (by omega) (by omega)
        refine (store_any b _ ok1 12 (sec / 4294967296) _ (by omega) (by omega) (by omega) (by omega) hR).mono ?_
        rw [st12 _ _ rfl] at ok2 ⊢
        rintro e w4 ⟨rfl, hR', hF'⟩
        replace hF := hF.trans hF'
        clear ok1 hR hF'
        dsimp only at ok2 hR'
        rw [join_parts] at ok2 hR'
        have ok1 := ok2
        have hR := hR'
        clear ok2 hR'
        go_wp2_with fail
        refine (seconds_any b _ _ hR).mono ?_
        rintro e w5 ⟨rfl, hb'⟩
        replace hR := RtcAt.ext hR hb'
        replace hF := hF.trans (but_of hb' b)
        clear hb'
        go_wp2_with fail
        refine (rest_any b _ _ hR).mono ?_
        rintro e w6 ⟨rfl, hb'⟩
        replace hR := RtcAt.ext hR hb'
        replace hF := hF.trans (but_of hb' b)
        clear hb'
        go_wp2_with fail
        have ok2 := St.store_ok _ ok1 16 (alarm % 4294967296) (by omega) (by omega)
        refine (store_any b _ ok1 16 (alarm % 4294967296) _ (by omega) (by omega) (by omega) (by omega) hR).mono ?_
        rw [st16 _ _ rfl] at ok2 ⊢
        rintro e w7 ⟨rfl, hR', hF'⟩
        replace hF := hF.trans hF'
        clear ok1 hR hF'
        dsimp only at ok2 hR'
        have ok1 := ok2
        have hR := hR'
        clear ok2 hR'
        go_wp2_with fail
        have ok2 := St.store_ok _ ok1 20 (alarm / 4294967296) (by omega) (by omega)
        refine (store_any b _ ok1 20 (alarm / 4294967296) _ (by omega) (by omega) (by omega) (by omega) hR).mono ?_
        rw [st20 _ _ rfl] at ok2 ⊢
        rintro e w8 ⟨rfl, hR', hF'⟩
        replace hF := hF.trans hF'
        clear ok1 hR hF'
        dsimp only at ok2 hR'
        rw [show ∀ q : Int, alarm / 4294967296 * 4294967296 + (q * 4294967296 + alarm % 4294967296) % 4294967296 = alarm by intro q; omega] at ok2 hR'
        have ok1 := ok2
        have hR := hR'
        clear ok2 hR'
        go_wp2_with fail
        refine (alarm_any b _ _ hR).mono ?_
        rintro e w9 ⟨rfl, hb'⟩
        replace hR := RtcAt.ext hR hb'
        replace hF := hF.trans (but_of hb' b)
        clear hb'
        go_wp2_with fail
        refine (raised_any b _ _ hR).mono ?_
        rintro e w10 ⟨rfl, hb'⟩
        replace hR := RtcAt.ext hR hb'
        replace hF := hF.trans (but_of hb' b)
        clear hb'
        go_wp2_with fail
        have ok2 := St.store_ok _ ok1 24 (1) (by omega) (by omega)
        refine (store_any b _ ok1 24 (1) _ (by omega) (by omega) (by omega) (by omega) hR).mono ?_
        rw [st24] at ok2 ⊢
        rintro e w11 ⟨rfl, hR', hF'⟩
        replace hF := hF.trans hF'
        clear ok1 hR hF'
        dsimp only at ok2 hR'
        obtain ⟨Z, hZ⟩ : ∃ Z, decide (alarm ≤ sec) = Z := ⟨_, rfl⟩
        have ok1 := ok2
        have hR := hR'
        clear ok2 hR'
        go_wp2_with fail
        refine (raised_any b _ _ hR).mono ?_
        rintro e w12 ⟨rfl, hb'⟩
        replace hR := RtcAt.ext hR hb'
        replace hF := hF.trans (but_of hb' b)
        clear hb'
        go_wp2_with fail
        refine (tick_any b _ ok1 dv _ (by omega) (by omega) hR).mono ?_
        rw [tk1 _ _ _ _ (by omega) (by omega) (by omega) a1]
        rintro e w13 ⟨rfl, hR', hF'⟩
        replace hF := hF.trans hF'
        clear ok1 hR hF' hZ
        have hR := hR'
        clear hR'
        go_wp2_with fail
        refine (known10 _).mono ?_
        rintro e w14 ⟨rfl, hb'⟩
        replace hR := RtcAt.ext hR hb'
        replace hF := hF.trans (but_of hb' b)
        clear hb'
        go_wp2_with fail
        have ha : addI sec 1 = sec + 1 := by rw [addI, if_pos (by omega)]
        rw [ha] at hR
        clear ha
        refine (seconds_any b _ _ hR).mono ?_
        rintro e w15 ⟨rfl, hb'⟩
        replace hR := RtcAt.ext hR hb'
        replace hF := hF.trans (but_of hb' b)
        clear hb'
        go_wp2_with fail
        refine (raised_any b _ _ hR).mono ?_
        rintro e w16 ⟨rfl, hb'⟩
        replace hR := RtcAt.ext hR hb'
        replace hF := hF.trans (but_of hb' b)
        clear hb'
        go_wp2_with fail
        refine (seconds_any b _ _ hR).mono ?_
        rintro e w17 ⟨rfl, hb'⟩
        replace hR := RtcAt.ext hR hb'
        replace hF := hF.trans (but_of hb' b)
        clear hb'
        go_wp2_with fail
        go_ret
        exact ⟨rfl, But.below HB1.out hF hb HB1.out.size⟩
      · go_enter Try.func3, Try.ntmps3
        go_wp2_with fail
        refine (new_any dv _ (by omega) (by omega)).mono ?_
        rintro e w1 ⟨b, rfl, hb, hR, hB1⟩
        have HB1 := Lib.hid hB1
        have ok0 : (⟨0, 0, 0, 0, false, false, dv⟩ : St).ok := by constructor <;> dsimp only <;> omega
        clear hB1
        go_wp2_with fail
        have ok1 := St.raise_ok ⟨0, 0, 0, 0, false, false, dv⟩ _ (St.tick_ok _ ok0 (n % 1099511627776) (by omega) (by omega))
        refine (tick_any b _ ok0 (n % 1099511627776) _ (by omega) (by omega) hR).mono ?_
        rw [tk _ rfl] at ok1 ⊢
        rintro e w2 ⟨rfl, hR, hF⟩
        generalize addI _ _ = X at ok1 hR
        generalize (_ : Int) % _ = Y at ok1 hR
        dsimp only at ok1 hR
        go_wp2_with fail
        have ok2 := St.store_ok _ ok1 8 (sec % 4294967296) (by omega) (by omega)
        refine (store_any b _ ok1 8 (sec % 4294967296) _ (by omega) (by omega) (by omega) (by omega) hR).mono ?_
        rw [st8 _ _ rfl] at ok2 ⊢
        rintro e w3 ⟨rfl, hR', hF'⟩
        replace hF := hF.trans hF'
        clear ok1 hR hF'
        dsimp only at ok2 hR'
        have ok1 := ok2
        have hR := hR'
        clear ok2 hR'
        go_wp2_with fail
        have ok2 := St.store_ok _ ok1 12 (sec / 4294967296) (by omega) (by omega)
        refine (store_any b _ ok1 12 (sec / 4294967296) _ (by omega) (by omega) (by omega) (by omega) hR).mono ?_
        rw [st12 _ _ rfl] at ok2 ⊢
        rintro e w4 ⟨rfl, hR', hF'⟩
        replace hF := hF.trans hF'
        clear ok1 hR hF'
        dsimp only at ok2 hR'
        rw [join_parts] at ok2 hR'
        have ok1 := ok2
        have hR := hR'
        clear ok2 hR'
        go_wp2_with fail
        refine (seconds_any b _ _ hR).mono ?_
        rintro e w5 ⟨rfl, hb'⟩
        replace hR := RtcAt.ext hR hb'
        replace hF := hF.trans (but_of hb' b)
        clear hb'
        go_wp2_with fail
        refine (rest_any b _ _ hR).mono ?_
        rintro e w6 ⟨rfl, hb'⟩
        replace hR := RtcAt.ext hR hb'
        replace hF := hF.trans (but_of hb' b)
        clear hb'
        go_wp2_with fail
        have ok2 := St.store_ok _ ok1 20 (alarm / 4294967296) (by omega) (by omega)
        refine (store_any b _ ok1 20 (alarm / 4294967296) _ (by omega) (by omega) (by omega) (by omega) hR).mono ?_
        rw [st20 _ _ rfl] at ok2 ⊢
        rintro e w7 ⟨rfl, hR', hF'⟩
        replace hF := hF.trans hF'
        clear ok1 hR hF'
        dsimp only at ok2 hR'
        have ok1 := ok2
        have hR := hR'
        clear ok2 hR'
        go_wp2_with fail
        have ok2 := St.store_ok _ ok1 16 (alarm % 4294967296) (by omega) (by omega)
        refine (store_any b _ ok1 16 (alarm % 4294967296) _ (by omega) (by omega) (by omega) (by omega) hR).mono ?_
        rw [st16 _ _ rfl] at ok2 ⊢
        rintro e w8 ⟨rfl, hR', hF'⟩
        replace hF := hF.trans hF'
        clear ok1 hR hF'
        dsimp only at ok2 hR'
        have ok1 := ok2
        have hR := hR'
        clear ok2 hR'
        go_wp2_with fail
        have ok2 := St.store_ok _ ok1 20 (alarm / 4294967296) (by omega) (by omega)
        refine (store_any b _ ok1 20 (alarm / 4294967296) _ (by omega) (by omega) (by omega) (by omega) hR).mono ?_
        rw [st20 _ _ rfl] at ok2 ⊢
        rintro e w9 ⟨rfl, hR', hF'⟩
        replace hF := hF.trans hF'
        clear ok1 hR hF'
        dsimp only at ok2 hR'
        rw [show ∀ q : Int, alarm / 4294967296 * 4294967296 + (q * 4294967296 + alarm % 4294967296) % 4294967296 = alarm by intro q; omega] at ok2 hR'
        have ok1 := ok2
        have hR := hR'
        clear ok2 hR'
        go_wp2_with fail
        refine (alarm_any b _ _ hR).mono ?_
        rintro e w10 ⟨rfl, hb'⟩
        replace hR := RtcAt.ext hR hb'
        replace hF := hF.trans (but_of hb' b)
        clear hb'
        go_wp2_with fail
        refine (raised_any b _ _ hR).mono ?_
        rintro e w11 ⟨rfl, hb'⟩
        replace hR := RtcAt.ext hR hb'
        replace hF := hF.trans (but_of hb' b)
        clear hb'
        go_wp2_with fail
        have ok2 := St.store_ok _ ok1 24 (1) (by omega) (by omega)
        refine (store_any b _ ok1 24 (1) _ (by omega) (by omega) (by omega) (by omega) hR).mono ?_
        rw [st24] at ok2 ⊢
        rintro e w12 ⟨rfl, hR', hF'⟩
        replace hF := hF.trans hF'
        clear ok1 hR hF'
        dsimp only at ok2 hR'
        obtain ⟨Z, hZ⟩ : ∃ Z, decide (alarm ≤ sec) = Z := ⟨_, rfl⟩
        have ok1 := ok2
        have hR := hR'
        clear ok2 hR'
        go_wp2_with fail
        refine (raised_any b _ _ hR).mono ?_
        rintro e w13 ⟨rfl, hb'⟩
        replace hR := RtcAt.ext hR hb'
        replace hF := hF.trans (but_of hb' b)
        clear hb'
        go_wp2_with fail
        refine (tick_any b _ ok1 dv _ (by omega) (by omega) hR).mono ?_
        rw [tk1 _ _ _ _ (by omega) (by omega) (by omega) a1]
        rintro e w14 ⟨rfl, hR', hF'⟩
        replace hF := hF.trans hF'
        clear ok1 hR hF' hZ
        have hR := hR'
        clear hR'
        go_wp2_with fail
        refine (known10 _).mono ?_
        rintro e w15 ⟨rfl, hb'⟩
        replace hR := RtcAt.ext hR hb'
        replace hF := hF.trans (but_of hb' b)
        clear hb'
        go_wp2_with fail
        have ha : addI sec 1 = sec + 1 := by rw [addI, if_pos (by omega)]
        rw [ha] at hR
        clear ha
        refine (seconds_any b _ _ hR).mono ?_
        rintro e w16 ⟨rfl, hb'⟩
        replace hR := RtcAt.ext hR hb'
        replace hF := hF.trans (but_of hb' b)
        clear hb'
        go_wp2_with fail
        refine (raised_any b _ _ hR).mono ?_
        rintro e w17 ⟨rfl, hb'⟩
        replace hR := RtcAt.ext hR hb'
        replace hF := hF.trans (but_of hb' b)
        clear hb'
        go_wp2_with fail
        refine (seconds_any b _ _ hR).mono ?_
        rintro e w18 ⟨rfl, hb'⟩
        replace hR := RtcAt.ext hR hb'
        replace hF := hF.trans (but_of hb' b)
        clear hb'
        go_wp2_with fail
        go_ret
        exact ⟨rfl, But.below HB1.out hF hb HB1.out.size⟩
end Go.Proofs.Ytdhgcmodlikckaa
