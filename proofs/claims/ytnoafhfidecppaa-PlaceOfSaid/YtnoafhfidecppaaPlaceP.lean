/- The plain law of places: where a deadline belongs, and a place's span; no program in sight. -/
import Derived.Test.YtnoafhfidecppaaPlaceD
namespace Go.Proofs.Ytnoafhfidecppaa
open Go.RowKit
set_option linter.unusedVariables false
set_option linter.unusedSimpArgs false

theorem dgl_inj {a b : Int} (h : (dgl a == dgl b) = true) : a = b := by
  simp [dgl] at h
  omega
/-- A number's quotients, each by 64 of the one before. -/
theorem chain (n : Int) (h0 : 0 ≤ n) (h1 : n ≤ 18446744073709551615) : ∃ n1 n2 n3 n4 n5 n6 n7 n8 : Int, (n / 64 = n1 ∧ n / 4096 = n2 ∧ n / 262144 = n3 ∧ n / 16777216 = n4 ∧ n / 1073741824 = n5 ∧ n / 68719476736 = n6 ∧ n / 4398046511104 = n7 ∧ n / 281474976710656 = n8) ∧ (64 * n1 ≤ n ∧ n < 64 * n1 + 64) ∧ (64 * n2 ≤ n1 ∧ n1 < 64 * n2 + 64) ∧ (64 * n3 ≤ n2 ∧ n2 < 64 * n3 + 64) ∧ (64 * n4 ≤ n3 ∧ n3 < 64 * n4 + 64) ∧ (64 * n5 ≤ n4 ∧ n4 < 64 * n5 + 64) ∧ (64 * n6 ≤ n5 ∧ n5 < 64 * n6 + 64) ∧ (64 * n7 ≤ n6 ∧ n6 < 64 * n7 + 64) ∧ (64 * n8 ≤ n7 ∧ n7 < 64 * n8 + 64) ∧ 0 ≤ n8 ∧ n8 ≤ 65535 :=
  ⟨_, _, _, _, _, _, _, _, ⟨rfl, rfl, rfl, rfl, rfl, rfl, rfl, rfl⟩, ⟨by omega, by omega⟩, ⟨by omega, by omega⟩, ⟨by omega, by omega⟩, ⟨by omega, by omega⟩, ⟨by omega, by omega⟩, ⟨by omega, by omega⟩, ⟨by omega, by omega⟩, ⟨by omega, by omega⟩, by omega, by omega⟩
theorem top_cases (a b : Int) (h0 : 0 ≤ a) (h1 : a ≤ 18446744073709551615) (k0 : 0 ≤ b) (k1 : b ≤ 18446744073709551615) :
    (a = b ∧ topI a b = -1) ∨ (a / 64 = b / 64 ∧ a ≠ b ∧ topI a b = 0) ∨ (a / 4096 = b / 4096 ∧ a / 64 ≠ b / 64 ∧ topI a b = 1) ∨ (a / 262144 = b / 262144 ∧ a / 4096 ≠ b / 4096 ∧ topI a b = 2) ∨ (a / 16777216 = b / 16777216 ∧ a / 262144 ≠ b / 262144 ∧ topI a b = 3) ∨ (a / 1073741824 = b / 1073741824 ∧ a / 16777216 ≠ b / 16777216 ∧ topI a b = 4) ∨ (a / 68719476736 = b / 68719476736 ∧ a / 1073741824 ≠ b / 1073741824 ∧ topI a b = 5) ∨ (a / 4398046511104 = b / 4398046511104 ∧ a / 68719476736 ≠ b / 68719476736 ∧ topI a b = 6) ∨ (a / 281474976710656 = b / 281474976710656 ∧ a / 4398046511104 ≠ b / 4398046511104 ∧ topI a b = 7) ∨ (a / 281474976710656 ≠ b / 281474976710656 ∧ topI a b = 8) := by
  by_cases hd : (dgl a == dgl b) = true
  · have := dgl_inj hd
    left
    exact ⟨this, by rw [topI, if_pos hd]⟩
  · have hne : a ≠ b := by
      intro e
      subst e
      simp at hd
    rw [topI, if_neg hd]
    clear hd
    simp only [bne_iff_ne, ne_eq]
    obtain ⟨a1, a2, a3, a4, a5, a6, a7, a8, ⟨ea1, ea2, ea3, ea4, ea5, ea6, ea7, ea8⟩, ⟨la1, ua1⟩, ⟨la2, ua2⟩, ⟨la3, ua3⟩, ⟨la4, ua4⟩, ⟨la5, ua5⟩, ⟨la6, ua6⟩, ⟨la7, ua7⟩, ⟨la8, ua8⟩, za, ta⟩ := chain a h0 h1
    obtain ⟨b1, b2, b3, b4, b5, b6, b7, b8, ⟨eb1, eb2, eb3, eb4, eb5, eb6, eb7, eb8⟩, ⟨lb1, ub1⟩, ⟨lb2, ub2⟩, ⟨lb3, ub3⟩, ⟨lb4, ub4⟩, ⟨lb5, ub5⟩, ⟨lb6, ub6⟩, ⟨lb7, ub7⟩, ⟨lb8, ub8⟩, zb, tb⟩ := chain b k0 k1
    simp only [ea1, ea2, ea3, ea4, ea5, ea6, ea7, ea8, eb1, eb2, eb3, eb4, eb5, eb6, eb7, eb8]
    by_cases t8 : a8 = b8
    · rw [if_neg (not_not_intro t8)]
      by_cases t7 : a7 % 64 = b7 % 64
      · rw [if_neg (not_not_intro t7)]
        by_cases t6 : a6 % 64 = b6 % 64
        · rw [if_neg (not_not_intro t6)]
          by_cases t5 : a5 % 64 = b5 % 64
          · rw [if_neg (not_not_intro t5)]
            by_cases t4 : a4 % 64 = b4 % 64
            · rw [if_neg (not_not_intro t4)]
              by_cases t3 : a3 % 64 = b3 % 64
              · rw [if_neg (not_not_intro t3)]
                by_cases t2 : a2 % 64 = b2 % 64
                · rw [if_neg (not_not_intro t2)]
                  by_cases t1 : a1 % 64 = b1 % 64
                  · rw [if_neg (not_not_intro t1)]
                    exact .inr (.inl (⟨by omega, hne, rfl⟩))
                  · rw [if_pos t1]
                    exact .inr (.inr (.inl (⟨by omega, by omega, rfl⟩)))
                · rw [if_pos t2]
                  exact .inr (.inr (.inr (.inl (⟨by omega, by omega, rfl⟩))))
              · rw [if_pos t3]
                exact .inr (.inr (.inr (.inr (.inl (⟨by omega, by omega, rfl⟩)))))
            · rw [if_pos t4]
              exact .inr (.inr (.inr (.inr (.inr (.inl (⟨by omega, by omega, rfl⟩))))))
          · rw [if_pos t5]
            exact .inr (.inr (.inr (.inr (.inr (.inr (.inl (⟨by omega, by omega, rfl⟩)))))))
        · rw [if_pos t6]
          exact .inr (.inr (.inr (.inr (.inr (.inr (.inr (.inl (⟨by omega, by omega, rfl⟩))))))))
      · rw [if_pos t7]
        exact .inr (.inr (.inr (.inr (.inr (.inr (.inr (.inr (.inl (⟨by omega, by omega, rfl⟩)))))))))
    · rw [if_pos t8]
      exact .inr (.inr (.inr (.inr (.inr (.inr (.inr (.inr (.inr ((⟨t8, rfl⟩))))))))))

theorem of_cases (b d : Int) (h0 : 0 ≤ b) (h1 : b ≤ 18446744073709551615) (k0 : 0 ≤ d) (k1 : d ≤ 18446744073709551615) :
    (d ≤ b ∧ ofL b d = -1 ∧ ofS b d = 0) ∨ (b / 64 = d / 64 ∧ b < d ∧ ofL b d = 0 ∧ ofS b d = d % 64) ∨ (b / 4096 = d / 4096 ∧ b / 64 < d / 64 ∧ ofL b d = 1 ∧ ofS b d = d / 64 % 64) ∨ (b / 262144 = d / 262144 ∧ b / 4096 < d / 4096 ∧ ofL b d = 2 ∧ ofS b d = d / 4096 % 64) ∨ (b / 16777216 = d / 16777216 ∧ b / 262144 < d / 262144 ∧ ofL b d = 3 ∧ ofS b d = d / 262144 % 64) ∨ (b / 1073741824 = d / 1073741824 ∧ b / 16777216 < d / 16777216 ∧ ofL b d = 4 ∧ ofS b d = d / 16777216 % 64) ∨ (b / 68719476736 = d / 68719476736 ∧ b / 1073741824 < d / 1073741824 ∧ ofL b d = 5 ∧ ofS b d = d / 1073741824 % 64) ∨ (b / 4398046511104 = d / 4398046511104 ∧ b / 68719476736 < d / 68719476736 ∧ ofL b d = 6 ∧ ofS b d = d / 68719476736 % 64) ∨ (b / 281474976710656 = d / 281474976710656 ∧ b / 4398046511104 < d / 4398046511104 ∧ ofL b d = 7 ∧ ofS b d = d / 4398046511104 % 64) ∨ (b / 281474976710656 < d / 281474976710656 ∧ ofL b d = 8 ∧ ofS b d = 0) := by
  by_cases hd : d ≤ b
  · left
    exact ⟨hd, by rw [ofL, if_pos hd], by rw [ofS, if_pos hd]⟩
  · rw [ofL, ofS, if_neg hd, if_neg hd]
    rcases top_cases b d h0 h1 k0 k1 with ⟨e, t⟩ | ⟨e, n, t⟩ | ⟨e, n, t⟩ | ⟨e, n, t⟩ | ⟨e, n, t⟩ | ⟨e, n, t⟩ | ⟨e, n, t⟩ | ⟨e, n, t⟩ | ⟨e, n, t⟩ | ⟨n, t⟩
    · omega
    · rw [t, if_neg (by decide), if_neg (by decide)]
      exact .inr (.inl (⟨e, by omega, rfl, by simp [digitI]⟩))
    · rw [t, if_neg (by decide), if_neg (by decide)]
      exact .inr (.inr (.inl (⟨e, by omega, rfl, by simp [digitI]⟩)))
    · rw [t, if_neg (by decide), if_neg (by decide)]
      exact .inr (.inr (.inr (.inl (⟨e, by omega, rfl, by simp [digitI]⟩))))
    · rw [t, if_neg (by decide), if_neg (by decide)]
      exact .inr (.inr (.inr (.inr (.inl (⟨e, by omega, rfl, by simp [digitI]⟩)))))
    · rw [t, if_neg (by decide), if_neg (by decide)]
      exact .inr (.inr (.inr (.inr (.inr (.inl (⟨e, by omega, rfl, by simp [digitI]⟩))))))
    · rw [t, if_neg (by decide), if_neg (by decide)]
      exact .inr (.inr (.inr (.inr (.inr (.inr (.inl (⟨e, by omega, rfl, by simp [digitI]⟩)))))))
    · rw [t, if_neg (by decide), if_neg (by decide)]
      exact .inr (.inr (.inr (.inr (.inr (.inr (.inr (.inl (⟨e, by omega, rfl, by simp [digitI]⟩))))))))
    · rw [t, if_neg (by decide), if_neg (by decide)]
      exact .inr (.inr (.inr (.inr (.inr (.inr (.inr (.inr (.inl (⟨e, by omega, rfl, by simp [digitI]⟩)))))))))
    · rw [t, if_pos (by decide), if_pos (by decide)]
      exact .inr (.inr (.inr (.inr (.inr (.inr (.inr (.inr (.inr ((⟨by omega, rfl, rfl⟩))))))))))
theorem of_right (b d : Int) (h0 : 0 ≤ b) (h1 : b ≤ 18446744073709551615) (k0 : 0 ≤ d) (k1 : d ≤ 18446744073709551615) : rightB (ofL b d) (ofS b d) = true := by
  have key : ∀ l s : Int, (l = -1 ∧ s = 0) ∨ (l = 8 ∧ s = 0) ∨ (0 ≤ l ∧ l < 8 ∧ 1 ≤ s ∧ s < 64) → rightB l s = true := by
    intro l s h
    simp [rightB]
    omega
  apply key
  rcases of_cases b d h0 h1 k0 k1 with ⟨p1, p2, p3⟩ | ⟨p0, p1, p2, p3⟩ | ⟨p0, p1, p2, p3⟩ | ⟨p0, p1, p2, p3⟩ | ⟨p0, p1, p2, p3⟩ | ⟨p0, p1, p2, p3⟩ | ⟨p0, p1, p2, p3⟩ | ⟨p0, p1, p2, p3⟩ | ⟨p0, p1, p2, p3⟩ | ⟨p1, p2, p3⟩
  · omega
  · omega
  · omega
  · omega
  · omega
  · omega
  · omega
  · omega
  · omega
  · omega
theorem span_lit0 (b s : Int) (h0 : 0 ≤ b) (h1 : b ≤ 18446744073709551615) (hs1 : 1 ≤ s) (hs64 : s < 64) :
    (spanB b 0 s = decide (b % 64 < s)) ∧ (b % 64 < s → spanF b 0 s = (b / 64 * 64 + s * 1) ∧ spanT b 0 s = (b / 64 * 64 + s * 1) + 0) ∧ (s ≤ b % 64 → spanF b 0 s = 0 ∧ spanT b 0 s = 0) := by
  have hr := right_in (l := 0) (by decide) (by decide) hs1 hs64
  have hg : digitI b 0 = b % 64 := by simp [digitI]
  have hw : withI b 0 s = (b / 64 * 64 + s * 1) := by
    have hs : s % 64 = s := by omega
    simp [withI, hs]
  have hB : spanB b 0 s = decide (b % 64 < s) := by
    rw [spanB, hr, hg]
    simp
  refine ⟨hB, fun h => ?_, fun h => ?_⟩
  · have hB' : spanB b 0 s = true := by rw [hB]; simpa using h
    have ht : bits .or .u64 (withI b 0 s) (maskI (6 * 0)) = (b / 64 * 64 + s * 1) + 0 := by
      rw [hw, show maskI (6 * 0) = 0 from rfl, u64_or_add 0 _ _ (by omega) (by omega) (by omega) (by omega) (by omega) (by omega)]
    rw [spanF, spanT, hB', if_neg (by simp), if_neg (by decide), if_neg (by decide), if_neg (by simp), if_neg (by decide), if_neg (by decide)]
    exact ⟨hw, ht⟩
  · have hB' : spanB b 0 s = false := by rw [hB]; simp; omega
    rw [spanF, spanT, hB', if_pos rfl, if_pos rfl]
    exact ⟨rfl, rfl⟩
theorem span_lit1 (b s : Int) (h0 : 0 ≤ b) (h1 : b ≤ 18446744073709551615) (hs1 : 1 ≤ s) (hs64 : s < 64) :
    (spanB b 1 s = decide (b / 64 % 64 < s)) ∧ (b / 64 % 64 < s → spanF b 1 s = (b / 4096 * 4096 + s * 64) ∧ spanT b 1 s = (b / 4096 * 4096 + s * 64) + 63) ∧ (s ≤ b / 64 % 64 → spanF b 1 s = 0 ∧ spanT b 1 s = 0) := by
  have hr := right_in (l := 1) (by decide) (by decide) hs1 hs64
  have hg : digitI b 1 = b / 64 % 64 := by simp [digitI]
  have hw : withI b 1 s = (b / 4096 * 4096 + s * 64) := by
    have hs : s % 64 = s := by omega
    simp [withI, hs]
  have hB : spanB b 1 s = decide (b / 64 % 64 < s) := by
    rw [spanB, hr, hg]
    simp
  refine ⟨hB, fun h => ?_, fun h => ?_⟩
  · have hB' : spanB b 1 s = true := by rw [hB]; simpa using h
    have ht : bits .or .u64 (withI b 1 s) (maskI (6 * 1)) = (b / 4096 * 4096 + s * 64) + 63 := by
      rw [hw, show maskI (6 * 1) = 63 from rfl, u64_or_add 6 _ _ (by omega) (by omega) (by omega) (by omega) (by omega) (by omega)]
    rw [spanF, spanT, hB', if_neg (by simp), if_neg (by decide), if_neg (by decide), if_neg (by simp), if_neg (by decide), if_neg (by decide)]
    exact ⟨hw, ht⟩
  · have hB' : spanB b 1 s = false := by rw [hB]; simp; omega
    rw [spanF, spanT, hB', if_pos rfl, if_pos rfl]
    exact ⟨rfl, rfl⟩
theorem span_lit2 (b s : Int) (h0 : 0 ≤ b) (h1 : b ≤ 18446744073709551615) (hs1 : 1 ≤ s) (hs64 : s < 64) :
    (spanB b 2 s = decide (b / 4096 % 64 < s)) ∧ (b / 4096 % 64 < s → spanF b 2 s = (b / 262144 * 262144 + s * 4096) ∧ spanT b 2 s = (b / 262144 * 262144 + s * 4096) + 4095) ∧ (s ≤ b / 4096 % 64 → spanF b 2 s = 0 ∧ spanT b 2 s = 0) := by
  have hr := right_in (l := 2) (by decide) (by decide) hs1 hs64
  have hg : digitI b 2 = b / 4096 % 64 := by simp [digitI]
  have hw : withI b 2 s = (b / 262144 * 262144 + s * 4096) := by
    have hs : s % 64 = s := by omega
    simp [withI, hs]
  have hB : spanB b 2 s = decide (b / 4096 % 64 < s) := by
    rw [spanB, hr, hg]
    simp
  refine ⟨hB, fun h => ?_, fun h => ?_⟩
  · have hB' : spanB b 2 s = true := by rw [hB]; simpa using h
    have ht : bits .or .u64 (withI b 2 s) (maskI (6 * 2)) = (b / 262144 * 262144 + s * 4096) + 4095 := by
      rw [hw, show maskI (6 * 2) = 4095 from rfl, u64_or_add 12 _ _ (by omega) (by omega) (by omega) (by omega) (by omega) (by omega)]
    rw [spanF, spanT, hB', if_neg (by simp), if_neg (by decide), if_neg (by decide), if_neg (by simp), if_neg (by decide), if_neg (by decide)]
    exact ⟨hw, ht⟩
  · have hB' : spanB b 2 s = false := by rw [hB]; simp; omega
    rw [spanF, spanT, hB', if_pos rfl, if_pos rfl]
    exact ⟨rfl, rfl⟩
theorem span_lit3 (b s : Int) (h0 : 0 ≤ b) (h1 : b ≤ 18446744073709551615) (hs1 : 1 ≤ s) (hs64 : s < 64) :
    (spanB b 3 s = decide (b / 262144 % 64 < s)) ∧ (b / 262144 % 64 < s → spanF b 3 s = (b / 16777216 * 16777216 + s * 262144) ∧ spanT b 3 s = (b / 16777216 * 16777216 + s * 262144) + 262143) ∧ (s ≤ b / 262144 % 64 → spanF b 3 s = 0 ∧ spanT b 3 s = 0) := by
  have hr := right_in (l := 3) (by decide) (by decide) hs1 hs64
  have hg : digitI b 3 = b / 262144 % 64 := by simp [digitI]
  have hw : withI b 3 s = (b / 16777216 * 16777216 + s * 262144) := by
    have hs : s % 64 = s := by omega
    simp [withI, hs]
  have hB : spanB b 3 s = decide (b / 262144 % 64 < s) := by
    rw [spanB, hr, hg]
    simp
  refine ⟨hB, fun h => ?_, fun h => ?_⟩
  · have hB' : spanB b 3 s = true := by rw [hB]; simpa using h
    have ht : bits .or .u64 (withI b 3 s) (maskI (6 * 3)) = (b / 16777216 * 16777216 + s * 262144) + 262143 := by
      rw [hw, show maskI (6 * 3) = 262143 from rfl, u64_or_add 18 _ _ (by omega) (by omega) (by omega) (by omega) (by omega) (by omega)]
    rw [spanF, spanT, hB', if_neg (by simp), if_neg (by decide), if_neg (by decide), if_neg (by simp), if_neg (by decide), if_neg (by decide)]
    exact ⟨hw, ht⟩
  · have hB' : spanB b 3 s = false := by rw [hB]; simp; omega
    rw [spanF, spanT, hB', if_pos rfl, if_pos rfl]
    exact ⟨rfl, rfl⟩
theorem span_lit4 (b s : Int) (h0 : 0 ≤ b) (h1 : b ≤ 18446744073709551615) (hs1 : 1 ≤ s) (hs64 : s < 64) :
    (spanB b 4 s = decide (b / 16777216 % 64 < s)) ∧ (b / 16777216 % 64 < s → spanF b 4 s = (b / 1073741824 * 1073741824 + s * 16777216) ∧ spanT b 4 s = (b / 1073741824 * 1073741824 + s * 16777216) + 16777215) ∧ (s ≤ b / 16777216 % 64 → spanF b 4 s = 0 ∧ spanT b 4 s = 0) := by
  have hr := right_in (l := 4) (by decide) (by decide) hs1 hs64
  have hg : digitI b 4 = b / 16777216 % 64 := by simp [digitI]
  have hw : withI b 4 s = (b / 1073741824 * 1073741824 + s * 16777216) := by
    have hs : s % 64 = s := by omega
    simp [withI, hs]
  have hB : spanB b 4 s = decide (b / 16777216 % 64 < s) := by
    rw [spanB, hr, hg]
    simp
  refine ⟨hB, fun h => ?_, fun h => ?_⟩
  · have hB' : spanB b 4 s = true := by rw [hB]; simpa using h
    have ht : bits .or .u64 (withI b 4 s) (maskI (6 * 4)) = (b / 1073741824 * 1073741824 + s * 16777216) + 16777215 := by
      rw [hw, show maskI (6 * 4) = 16777215 from rfl, u64_or_add 24 _ _ (by omega) (by omega) (by omega) (by omega) (by omega) (by omega)]
    rw [spanF, spanT, hB', if_neg (by simp), if_neg (by decide), if_neg (by decide), if_neg (by simp), if_neg (by decide), if_neg (by decide)]
    exact ⟨hw, ht⟩
  · have hB' : spanB b 4 s = false := by rw [hB]; simp; omega
    rw [spanF, spanT, hB', if_pos rfl, if_pos rfl]
    exact ⟨rfl, rfl⟩
theorem span_lit5 (b s : Int) (h0 : 0 ≤ b) (h1 : b ≤ 18446744073709551615) (hs1 : 1 ≤ s) (hs64 : s < 64) :
    (spanB b 5 s = decide (b / 1073741824 % 64 < s)) ∧ (b / 1073741824 % 64 < s → spanF b 5 s = (b / 68719476736 * 68719476736 + s * 1073741824) ∧ spanT b 5 s = (b / 68719476736 * 68719476736 + s * 1073741824) + 1073741823) ∧ (s ≤ b / 1073741824 % 64 → spanF b 5 s = 0 ∧ spanT b 5 s = 0) := by
  have hr := right_in (l := 5) (by decide) (by decide) hs1 hs64
  have hg : digitI b 5 = b / 1073741824 % 64 := by simp [digitI]
  have hw : withI b 5 s = (b / 68719476736 * 68719476736 + s * 1073741824) := by
    have hs : s % 64 = s := by omega
    simp [withI, hs]
  have hB : spanB b 5 s = decide (b / 1073741824 % 64 < s) := by
    rw [spanB, hr, hg]
    simp
  refine ⟨hB, fun h => ?_, fun h => ?_⟩
  · have hB' : spanB b 5 s = true := by rw [hB]; simpa using h
    have ht : bits .or .u64 (withI b 5 s) (maskI (6 * 5)) = (b / 68719476736 * 68719476736 + s * 1073741824) + 1073741823 := by
      rw [hw, show maskI (6 * 5) = 1073741823 from rfl, u64_or_add 30 _ _ (by omega) (by omega) (by omega) (by omega) (by omega) (by omega)]
    rw [spanF, spanT, hB', if_neg (by simp), if_neg (by decide), if_neg (by decide), if_neg (by simp), if_neg (by decide), if_neg (by decide)]
    exact ⟨hw, ht⟩
  · have hB' : spanB b 5 s = false := by rw [hB]; simp; omega
    rw [spanF, spanT, hB', if_pos rfl, if_pos rfl]
    exact ⟨rfl, rfl⟩
theorem span_lit6 (b s : Int) (h0 : 0 ≤ b) (h1 : b ≤ 18446744073709551615) (hs1 : 1 ≤ s) (hs64 : s < 64) :
    (spanB b 6 s = decide (b / 68719476736 % 64 < s)) ∧ (b / 68719476736 % 64 < s → spanF b 6 s = (b / 4398046511104 * 4398046511104 + s * 68719476736) ∧ spanT b 6 s = (b / 4398046511104 * 4398046511104 + s * 68719476736) + 68719476735) ∧ (s ≤ b / 68719476736 % 64 → spanF b 6 s = 0 ∧ spanT b 6 s = 0) := by
  have hr := right_in (l := 6) (by decide) (by decide) hs1 hs64
  have hg : digitI b 6 = b / 68719476736 % 64 := by simp [digitI]
  have hw : withI b 6 s = (b / 4398046511104 * 4398046511104 + s * 68719476736) := by
    have hs : s % 64 = s := by omega
    simp [withI, hs]
  have hB : spanB b 6 s = decide (b / 68719476736 % 64 < s) := by
    rw [spanB, hr, hg]
    simp
  refine ⟨hB, fun h => ?_, fun h => ?_⟩
  · have hB' : spanB b 6 s = true := by rw [hB]; simpa using h
    have ht : bits .or .u64 (withI b 6 s) (maskI (6 * 6)) = (b / 4398046511104 * 4398046511104 + s * 68719476736) + 68719476735 := by
      rw [hw, show maskI (6 * 6) = 68719476735 from rfl, u64_or_add 36 _ _ (by omega) (by omega) (by omega) (by omega) (by omega) (by omega)]
    rw [spanF, spanT, hB', if_neg (by simp), if_neg (by decide), if_neg (by decide), if_neg (by simp), if_neg (by decide), if_neg (by decide)]
    exact ⟨hw, ht⟩
  · have hB' : spanB b 6 s = false := by rw [hB]; simp; omega
    rw [spanF, spanT, hB', if_pos rfl, if_pos rfl]
    exact ⟨rfl, rfl⟩
theorem span_lit7 (b s : Int) (h0 : 0 ≤ b) (h1 : b ≤ 18446744073709551615) (hs1 : 1 ≤ s) (hs64 : s < 64) :
    (spanB b 7 s = decide (b / 4398046511104 % 64 < s)) ∧ (b / 4398046511104 % 64 < s → spanF b 7 s = (b / 281474976710656 * 281474976710656 + s * 4398046511104) ∧ spanT b 7 s = (b / 281474976710656 * 281474976710656 + s * 4398046511104) + 4398046511103) ∧ (s ≤ b / 4398046511104 % 64 → spanF b 7 s = 0 ∧ spanT b 7 s = 0) := by
  have hr := right_in (l := 7) (by decide) (by decide) hs1 hs64
  have hg : digitI b 7 = b / 4398046511104 % 64 := by simp [digitI]
  have hw : withI b 7 s = (b / 281474976710656 * 281474976710656 + s * 4398046511104) := by
    have hs : s % 64 = s := by omega
    simp [withI, hs]
  have hB : spanB b 7 s = decide (b / 4398046511104 % 64 < s) := by
    rw [spanB, hr, hg]
    simp
  refine ⟨hB, fun h => ?_, fun h => ?_⟩
  · have hB' : spanB b 7 s = true := by rw [hB]; simpa using h
    have ht : bits .or .u64 (withI b 7 s) (maskI (6 * 7)) = (b / 281474976710656 * 281474976710656 + s * 4398046511104) + 4398046511103 := by
      rw [hw, show maskI (6 * 7) = 4398046511103 from rfl, u64_or_add 42 _ _ (by omega) (by omega) (by omega) (by omega) (by omega) (by omega)]
    rw [spanF, spanT, hB', if_neg (by simp), if_neg (by decide), if_neg (by decide), if_neg (by simp), if_neg (by decide), if_neg (by decide)]
    exact ⟨hw, ht⟩
  · have hB' : spanB b 7 s = false := by rw [hB]; simp; omega
    rw [spanF, spanT, hB', if_pos rfl, if_pos rfl]
    exact ⟨rfl, rfl⟩
theorem span_late' (b : Int) : spanB b (-1) 0 = true ∧ spanF b (-1) 0 = 0 ∧ spanT b (-1) 0 = b := by
  have hB : spanB b (-1) 0 = true := by simp [spanB, rightB]
  refine ⟨hB, ?_, ?_⟩
  · rw [spanF, hB, if_neg (by simp), if_pos rfl]
  · rw [spanT, hB, if_neg (by simp), if_pos rfl]
theorem span_far' (b : Int) : (spanB b 8 0 = decide (b / 281474976710656 < 65535)) ∧ (b / 281474976710656 < 65535 → spanF b 8 0 = (b / 281474976710656 + 1) * 281474976710656 ∧ spanT b 8 0 = 18446744073709551615) := by
  have hB : spanB b 8 0 = decide (b / 281474976710656 < 65535) := by simp [spanB, rightB]
  refine ⟨hB, fun h => ?_⟩
  have hB' : spanB b 8 0 = true := by rw [hB]; simpa using h
  rw [spanF, spanT, hB', if_neg (by simp), if_neg (by decide), if_pos rfl, if_neg (by simp), if_neg (by decide), if_pos rfl]
  exact ⟨rfl, rfl⟩
set_option maxHeartbeats 2000000 in
theorem of_iff_late (b d : Int) (h0 : 0 ≤ b) (h1 : b ≤ 18446744073709551615) (k0 : 0 ≤ d) (k1 : d ≤ 18446744073709551615) : (ofL b d = -1 ∧ ofS b d = 0) ↔ d ≤ b := by
  rcases of_cases b d h0 h1 k0 k1 with ⟨p1, p2, p3⟩ | ⟨p0, p1, p2, p3⟩ | ⟨p0, p1, p2, p3⟩ | ⟨p0, p1, p2, p3⟩ | ⟨p0, p1, p2, p3⟩ | ⟨p0, p1, p2, p3⟩ | ⟨p0, p1, p2, p3⟩ | ⟨p0, p1, p2, p3⟩ | ⟨p0, p1, p2, p3⟩ | ⟨p1, p2, p3⟩
  all_goals (rw [p2, p3]; clear p2 p3)
  · omega
  · omega
  · omega
  · omega
  · omega
  · omega
  · omega
  · omega
  · omega
  · omega
set_option maxHeartbeats 2000000 in
theorem of_iff_far (b d : Int) (h0 : 0 ≤ b) (h1 : b ≤ 18446744073709551615) (k0 : 0 ≤ d) (k1 : d ≤ 18446744073709551615) : (ofL b d = 8 ∧ ofS b d = 0) ↔ b / 281474976710656 < d / 281474976710656 := by
  obtain ⟨b1, b2, b3, b4, b5, b6, b7, b8, ⟨eb1, eb2, eb3, eb4, eb5, eb6, eb7, eb8⟩, ⟨lb1, ub1⟩, ⟨lb2, ub2⟩, ⟨lb3, ub3⟩, ⟨lb4, ub4⟩, ⟨lb5, ub5⟩, ⟨lb6, ub6⟩, ⟨lb7, ub7⟩, ⟨lb8, ub8⟩, zb, tb⟩ := chain b h0 h1
  obtain ⟨d1, d2, d3, d4, d5, d6, d7, d8, ⟨ed1, ed2, ed3, ed4, ed5, ed6, ed7, ed8⟩, ⟨ld1, ud1⟩, ⟨ld2, ud2⟩, ⟨ld3, ud3⟩, ⟨ld4, ud4⟩, ⟨ld5, ud5⟩, ⟨ld6, ud6⟩, ⟨ld7, ud7⟩, ⟨ld8, ud8⟩, zd, td⟩ := chain d k0 k1
  rcases of_cases b d h0 h1 k0 k1 with ⟨p1, p2, p3⟩ | ⟨p0, p1, p2, p3⟩ | ⟨p0, p1, p2, p3⟩ | ⟨p0, p1, p2, p3⟩ | ⟨p0, p1, p2, p3⟩ | ⟨p0, p1, p2, p3⟩ | ⟨p0, p1, p2, p3⟩ | ⟨p0, p1, p2, p3⟩ | ⟨p0, p1, p2, p3⟩ | ⟨p1, p2, p3⟩
  all_goals (rw [p2, p3]; clear p2 p3; simp only [eb1, eb2, eb3, eb4, eb5, eb6, eb7, eb8, ed1, ed2, ed3, ed4, ed5, ed6, ed7, ed8, true_and, and_true, and_self, true_iff] at *)
  · omega
  · omega
  · omega
  · omega
  · omega
  · omega
  · omega
  · omega
  · omega
  · omega
set_option maxHeartbeats 2000000 in
theorem of_iff_in0 (b d s : Int) (h0 : 0 ≤ b) (h1 : b ≤ 18446744073709551615) (k0 : 0 ≤ d) (k1 : d ≤ 18446744073709551615) : (ofL b d = 0 ∧ ofS b d = s) ↔ (b / 64 = d / 64 ∧ b < d ∧ d % 64 = s) := by
  obtain ⟨b1, b2, b3, b4, b5, b6, b7, b8, ⟨eb1, eb2, eb3, eb4, eb5, eb6, eb7, eb8⟩, ⟨lb1, ub1⟩, ⟨lb2, ub2⟩, ⟨lb3, ub3⟩, ⟨lb4, ub4⟩, ⟨lb5, ub5⟩, ⟨lb6, ub6⟩, ⟨lb7, ub7⟩, ⟨lb8, ub8⟩, zb, tb⟩ := chain b h0 h1
  obtain ⟨d1, d2, d3, d4, d5, d6, d7, d8, ⟨ed1, ed2, ed3, ed4, ed5, ed6, ed7, ed8⟩, ⟨ld1, ud1⟩, ⟨ld2, ud2⟩, ⟨ld3, ud3⟩, ⟨ld4, ud4⟩, ⟨ld5, ud5⟩, ⟨ld6, ud6⟩, ⟨ld7, ud7⟩, ⟨ld8, ud8⟩, zd, td⟩ := chain d k0 k1
  rcases of_cases b d h0 h1 k0 k1 with ⟨p1, p2, p3⟩ | ⟨p0, p1, p2, p3⟩ | ⟨p0, p1, p2, p3⟩ | ⟨p0, p1, p2, p3⟩ | ⟨p0, p1, p2, p3⟩ | ⟨p0, p1, p2, p3⟩ | ⟨p0, p1, p2, p3⟩ | ⟨p0, p1, p2, p3⟩ | ⟨p0, p1, p2, p3⟩ | ⟨p1, p2, p3⟩
  all_goals (rw [p2, p3]; clear p2 p3; simp only [eb1, eb2, eb3, eb4, eb5, eb6, eb7, eb8, ed1, ed2, ed3, ed4, ed5, ed6, ed7, ed8, true_and, and_true, and_self, true_iff] at *)
  · omega
  · omega
  · omega
  · omega
  · omega
  · omega
  · omega
  · omega
  · omega
  · omega
set_option maxHeartbeats 2000000 in
theorem of_iff_in1 (b d s : Int) (h0 : 0 ≤ b) (h1 : b ≤ 18446744073709551615) (k0 : 0 ≤ d) (k1 : d ≤ 18446744073709551615) : (ofL b d = 1 ∧ ofS b d = s) ↔ (b / 4096 = d / 4096 ∧ b / 64 < d / 64 ∧ d / 64 % 64 = s) := by
  obtain ⟨b1, b2, b3, b4, b5, b6, b7, b8, ⟨eb1, eb2, eb3, eb4, eb5, eb6, eb7, eb8⟩, ⟨lb1, ub1⟩, ⟨lb2, ub2⟩, ⟨lb3, ub3⟩, ⟨lb4, ub4⟩, ⟨lb5, ub5⟩, ⟨lb6, ub6⟩, ⟨lb7, ub7⟩, ⟨lb8, ub8⟩, zb, tb⟩ := chain b h0 h1
  obtain ⟨d1, d2, d3, d4, d5, d6, d7, d8, ⟨ed1, ed2, ed3, ed4, ed5, ed6, ed7, ed8⟩, ⟨ld1, ud1⟩, ⟨ld2, ud2⟩, ⟨ld3, ud3⟩, ⟨ld4, ud4⟩, ⟨ld5, ud5⟩, ⟨ld6, ud6⟩, ⟨ld7, ud7⟩, ⟨ld8, ud8⟩, zd, td⟩ := chain d k0 k1
  rcases of_cases b d h0 h1 k0 k1 with ⟨p1, p2, p3⟩ | ⟨p0, p1, p2, p3⟩ | ⟨p0, p1, p2, p3⟩ | ⟨p0, p1, p2, p3⟩ | ⟨p0, p1, p2, p3⟩ | ⟨p0, p1, p2, p3⟩ | ⟨p0, p1, p2, p3⟩ | ⟨p0, p1, p2, p3⟩ | ⟨p0, p1, p2, p3⟩ | ⟨p1, p2, p3⟩
  all_goals (rw [p2, p3]; clear p2 p3; simp only [eb1, eb2, eb3, eb4, eb5, eb6, eb7, eb8, ed1, ed2, ed3, ed4, ed5, ed6, ed7, ed8, true_and, and_true, and_self, true_iff] at *)
  · omega
  · omega
  · omega
  · omega
  · omega
  · omega
  · omega
  · omega
  · omega
  · omega
set_option maxHeartbeats 2000000 in
theorem of_iff_in2 (b d s : Int) (h0 : 0 ≤ b) (h1 : b ≤ 18446744073709551615) (k0 : 0 ≤ d) (k1 : d ≤ 18446744073709551615) : (ofL b d = 2 ∧ ofS b d = s) ↔ (b / 262144 = d / 262144 ∧ b / 4096 < d / 4096 ∧ d / 4096 % 64 = s) := by
  obtain ⟨b1, b2, b3, b4, b5, b6, b7, b8, ⟨eb1, eb2, eb3, eb4, eb5, eb6, eb7, eb8⟩, ⟨lb1, ub1⟩, ⟨lb2, ub2⟩, ⟨lb3, ub3⟩, ⟨lb4, ub4⟩, ⟨lb5, ub5⟩, ⟨lb6, ub6⟩, ⟨lb7, ub7⟩, ⟨lb8, ub8⟩, zb, tb⟩ := chain b h0 h1
  obtain ⟨d1, d2, d3, d4, d5, d6, d7, d8, ⟨ed1, ed2, ed3, ed4, ed5, ed6, ed7, ed8⟩, ⟨ld1, ud1⟩, ⟨ld2, ud2⟩, ⟨ld3, ud3⟩, ⟨ld4, ud4⟩, ⟨ld5, ud5⟩, ⟨ld6, ud6⟩, ⟨ld7, ud7⟩, ⟨ld8, ud8⟩, zd, td⟩ := chain d k0 k1
  rcases of_cases b d h0 h1 k0 k1 with ⟨p1, p2, p3⟩ | ⟨p0, p1, p2, p3⟩ | ⟨p0, p1, p2, p3⟩ | ⟨p0, p1, p2, p3⟩ | ⟨p0, p1, p2, p3⟩ | ⟨p0, p1, p2, p3⟩ | ⟨p0, p1, p2, p3⟩ | ⟨p0, p1, p2, p3⟩ | ⟨p0, p1, p2, p3⟩ | ⟨p1, p2, p3⟩
  all_goals (rw [p2, p3]; clear p2 p3; simp only [eb1, eb2, eb3, eb4, eb5, eb6, eb7, eb8, ed1, ed2, ed3, ed4, ed5, ed6, ed7, ed8, true_and, and_true, and_self, true_iff] at *)
  · omega
  · omega
  · omega
  · omega
  · omega
  · omega
  · omega
  · omega
  · omega
  · omega
set_option maxHeartbeats 2000000 in
theorem of_iff_in3 (b d s : Int) (h0 : 0 ≤ b) (h1 : b ≤ 18446744073709551615) (k0 : 0 ≤ d) (k1 : d ≤ 18446744073709551615) : (ofL b d = 3 ∧ ofS b d = s) ↔ (b / 16777216 = d / 16777216 ∧ b / 262144 < d / 262144 ∧ d / 262144 % 64 = s) := by
  obtain ⟨b1, b2, b3, b4, b5, b6, b7, b8, ⟨eb1, eb2, eb3, eb4, eb5, eb6, eb7, eb8⟩, ⟨lb1, ub1⟩, ⟨lb2, ub2⟩, ⟨lb3, ub3⟩, ⟨lb4, ub4⟩, ⟨lb5, ub5⟩, ⟨lb6, ub6⟩, ⟨lb7, ub7⟩, ⟨lb8, ub8⟩, zb, tb⟩ := chain b h0 h1
  obtain ⟨d1, d2, d3, d4, d5, d6, d7, d8, ⟨ed1, ed2, ed3, ed4, ed5, ed6, ed7, ed8⟩, ⟨ld1, ud1⟩, ⟨ld2, ud2⟩, ⟨ld3, ud3⟩, ⟨ld4, ud4⟩, ⟨ld5, ud5⟩, ⟨ld6, ud6⟩, ⟨ld7, ud7⟩, ⟨ld8, ud8⟩, zd, td⟩ := chain d k0 k1
  rcases of_cases b d h0 h1 k0 k1 with ⟨p1, p2, p3⟩ | ⟨p0, p1, p2, p3⟩ | ⟨p0, p1, p2, p3⟩ | ⟨p0, p1, p2, p3⟩ | ⟨p0, p1, p2, p3⟩ | ⟨p0, p1, p2, p3⟩ | ⟨p0, p1, p2, p3⟩ | ⟨p0, p1, p2, p3⟩ | ⟨p0, p1, p2, p3⟩ | ⟨p1, p2, p3⟩
  all_goals (rw [p2, p3]; clear p2 p3; simp only [eb1, eb2, eb3, eb4, eb5, eb6, eb7, eb8, ed1, ed2, ed3, ed4, ed5, ed6, ed7, ed8, true_and, and_true, and_self, true_iff] at *)
  · omega
  · omega
  · omega
  · omega
  · omega
  · omega
  · omega
  · omega
  · omega
  · omega
set_option maxHeartbeats 2000000 in
theorem of_iff_in4 (b d s : Int) (h0 : 0 ≤ b) (h1 : b ≤ 18446744073709551615) (k0 : 0 ≤ d) (k1 : d ≤ 18446744073709551615) : (ofL b d = 4 ∧ ofS b d = s) ↔ (b / 1073741824 = d / 1073741824 ∧ b / 16777216 < d / 16777216 ∧ d / 16777216 % 64 = s) := by
  obtain ⟨b1, b2, b3, b4, b5, b6, b7, b8, ⟨eb1, eb2, eb3, eb4, eb5, eb6, eb7, eb8⟩, ⟨lb1, ub1⟩, ⟨lb2, ub2⟩, ⟨lb3, ub3⟩, ⟨lb4, ub4⟩, ⟨lb5, ub5⟩, ⟨lb6, ub6⟩, ⟨lb7, ub7⟩, ⟨lb8, ub8⟩, zb, tb⟩ := chain b h0 h1
  obtain ⟨d1, d2, d3, d4, d5, d6, d7, d8, ⟨ed1, ed2, ed3, ed4, ed5, ed6, ed7, ed8⟩, ⟨ld1, ud1⟩, ⟨ld2, ud2⟩, ⟨ld3, ud3⟩, ⟨ld4, ud4⟩, ⟨ld5, ud5⟩, ⟨ld6, ud6⟩, ⟨ld7, ud7⟩, ⟨ld8, ud8⟩, zd, td⟩ := chain d k0 k1
  rcases of_cases b d h0 h1 k0 k1 with ⟨p1, p2, p3⟩ | ⟨p0, p1, p2, p3⟩ | ⟨p0, p1, p2, p3⟩ | ⟨p0, p1, p2, p3⟩ | ⟨p0, p1, p2, p3⟩ | ⟨p0, p1, p2, p3⟩ | ⟨p0, p1, p2, p3⟩ | ⟨p0, p1, p2, p3⟩ | ⟨p0, p1, p2, p3⟩ | ⟨p1, p2, p3⟩
  all_goals (rw [p2, p3]; clear p2 p3; simp only [eb1, eb2, eb3, eb4, eb5, eb6, eb7, eb8, ed1, ed2, ed3, ed4, ed5, ed6, ed7, ed8, true_and, and_true, and_self, true_iff] at *)
  · omega
  · omega
  · omega
  · omega
  · omega
  · omega
  · omega
  · omega
  · omega
  · omega
set_option maxHeartbeats 2000000 in
theorem of_iff_in5 (b d s : Int) (h0 : 0 ≤ b) (h1 : b ≤ 18446744073709551615) (k0 : 0 ≤ d) (k1 : d ≤ 18446744073709551615) : (ofL b d = 5 ∧ ofS b d = s) ↔ (b / 68719476736 = d / 68719476736 ∧ b / 1073741824 < d / 1073741824 ∧ d / 1073741824 % 64 = s) := by
  obtain ⟨b1, b2, b3, b4, b5, b6, b7, b8, ⟨eb1, eb2, eb3, eb4, eb5, eb6, eb7, eb8⟩, ⟨lb1, ub1⟩, ⟨lb2, ub2⟩, ⟨lb3, ub3⟩, ⟨lb4, ub4⟩, ⟨lb5, ub5⟩, ⟨lb6, ub6⟩, ⟨lb7, ub7⟩, ⟨lb8, ub8⟩, zb, tb⟩ := chain b h0 h1
  obtain ⟨d1, d2, d3, d4, d5, d6, d7, d8, ⟨ed1, ed2, ed3, ed4, ed5, ed6, ed7, ed8⟩, ⟨ld1, ud1⟩, ⟨ld2, ud2⟩, ⟨ld3, ud3⟩, ⟨ld4, ud4⟩, ⟨ld5, ud5⟩, ⟨ld6, ud6⟩, ⟨ld7, ud7⟩, ⟨ld8, ud8⟩, zd, td⟩ := chain d k0 k1
  rcases of_cases b d h0 h1 k0 k1 with ⟨p1, p2, p3⟩ | ⟨p0, p1, p2, p3⟩ | ⟨p0, p1, p2, p3⟩ | ⟨p0, p1, p2, p3⟩ | ⟨p0, p1, p2, p3⟩ | ⟨p0, p1, p2, p3⟩ | ⟨p0, p1, p2, p3⟩ | ⟨p0, p1, p2, p3⟩ | ⟨p0, p1, p2, p3⟩ | ⟨p1, p2, p3⟩
  all_goals (rw [p2, p3]; clear p2 p3; simp only [eb1, eb2, eb3, eb4, eb5, eb6, eb7, eb8, ed1, ed2, ed3, ed4, ed5, ed6, ed7, ed8, true_and, and_true, and_self, true_iff] at *)
  · omega
  · omega
  · omega
  · omega
  · omega
  · omega
  · omega
  · omega
  · omega
  · omega
set_option maxHeartbeats 2000000 in
theorem of_iff_in6 (b d s : Int) (h0 : 0 ≤ b) (h1 : b ≤ 18446744073709551615) (k0 : 0 ≤ d) (k1 : d ≤ 18446744073709551615) : (ofL b d = 6 ∧ ofS b d = s) ↔ (b / 4398046511104 = d / 4398046511104 ∧ b / 68719476736 < d / 68719476736 ∧ d / 68719476736 % 64 = s) := by
  obtain ⟨b1, b2, b3, b4, b5, b6, b7, b8, ⟨eb1, eb2, eb3, eb4, eb5, eb6, eb7, eb8⟩, ⟨lb1, ub1⟩, ⟨lb2, ub2⟩, ⟨lb3, ub3⟩, ⟨lb4, ub4⟩, ⟨lb5, ub5⟩, ⟨lb6, ub6⟩, ⟨lb7, ub7⟩, ⟨lb8, ub8⟩, zb, tb⟩ := chain b h0 h1
  obtain ⟨d1, d2, d3, d4, d5, d6, d7, d8, ⟨ed1, ed2, ed3, ed4, ed5, ed6, ed7, ed8⟩, ⟨ld1, ud1⟩, ⟨ld2, ud2⟩, ⟨ld3, ud3⟩, ⟨ld4, ud4⟩, ⟨ld5, ud5⟩, ⟨ld6, ud6⟩, ⟨ld7, ud7⟩, ⟨ld8, ud8⟩, zd, td⟩ := chain d k0 k1
  rcases of_cases b d h0 h1 k0 k1 with ⟨p1, p2, p3⟩ | ⟨p0, p1, p2, p3⟩ | ⟨p0, p1, p2, p3⟩ | ⟨p0, p1, p2, p3⟩ | ⟨p0, p1, p2, p3⟩ | ⟨p0, p1, p2, p3⟩ | ⟨p0, p1, p2, p3⟩ | ⟨p0, p1, p2, p3⟩ | ⟨p0, p1, p2, p3⟩ | ⟨p1, p2, p3⟩
  all_goals (rw [p2, p3]; clear p2 p3; simp only [eb1, eb2, eb3, eb4, eb5, eb6, eb7, eb8, ed1, ed2, ed3, ed4, ed5, ed6, ed7, ed8, true_and, and_true, and_self, true_iff] at *)
  · omega
  · omega
  · omega
  · omega
  · omega
  · omega
  · omega
  · omega
  · omega
  · omega
set_option maxHeartbeats 2000000 in
theorem of_iff_in7 (b d s : Int) (h0 : 0 ≤ b) (h1 : b ≤ 18446744073709551615) (k0 : 0 ≤ d) (k1 : d ≤ 18446744073709551615) : (ofL b d = 7 ∧ ofS b d = s) ↔ (b / 281474976710656 = d / 281474976710656 ∧ b / 4398046511104 < d / 4398046511104 ∧ d / 4398046511104 % 64 = s) := by
  obtain ⟨b1, b2, b3, b4, b5, b6, b7, b8, ⟨eb1, eb2, eb3, eb4, eb5, eb6, eb7, eb8⟩, ⟨lb1, ub1⟩, ⟨lb2, ub2⟩, ⟨lb3, ub3⟩, ⟨lb4, ub4⟩, ⟨lb5, ub5⟩, ⟨lb6, ub6⟩, ⟨lb7, ub7⟩, ⟨lb8, ub8⟩, zb, tb⟩ := chain b h0 h1
  obtain ⟨d1, d2, d3, d4, d5, d6, d7, d8, ⟨ed1, ed2, ed3, ed4, ed5, ed6, ed7, ed8⟩, ⟨ld1, ud1⟩, ⟨ld2, ud2⟩, ⟨ld3, ud3⟩, ⟨ld4, ud4⟩, ⟨ld5, ud5⟩, ⟨ld6, ud6⟩, ⟨ld7, ud7⟩, ⟨ld8, ud8⟩, zd, td⟩ := chain d k0 k1
  rcases of_cases b d h0 h1 k0 k1 with ⟨p1, p2, p3⟩ | ⟨p0, p1, p2, p3⟩ | ⟨p0, p1, p2, p3⟩ | ⟨p0, p1, p2, p3⟩ | ⟨p0, p1, p2, p3⟩ | ⟨p0, p1, p2, p3⟩ | ⟨p0, p1, p2, p3⟩ | ⟨p0, p1, p2, p3⟩ | ⟨p0, p1, p2, p3⟩ | ⟨p1, p2, p3⟩
  all_goals (rw [p2, p3]; clear p2 p3; simp only [eb1, eb2, eb3, eb4, eb5, eb6, eb7, eb8, ed1, ed2, ed3, ed4, ed5, ed6, ed7, ed8, true_and, and_true, and_self, true_iff] at *)
  · omega
  · omega
  · omega
  · omega
  · omega
  · omega
  · omega
  · omega
  · omega
  · omega
/-- A deadline belongs to a place just if it lies in its span. -/
theorem of_iff (b d l s : Int) (h0 : 0 ≤ b) (h1 : b ≤ 18446744073709551615) (k0 : 0 ≤ d) (k1 : d ≤ 18446744073709551615) (hr : rightB l s = true) :
    (ofL b d = l ∧ ofS b d = s) ↔ (spanB b l s = true ∧ spanF b l s ≤ d ∧ d ≤ spanT b l s) := by
  rcases right_cases l s with hn | ⟨rfl, rfl⟩ | ⟨rfl, rfl⟩ | ⟨hl0, hl8, hs1, hs64⟩
  · rw [hn] at hr
    cases hr
  · obtain ⟨e1, e2, e3⟩ := span_late' b
    rw [of_iff_late b d h0 h1 k0 k1, e1, e2, e3]
    simp only [true_and]
    omega
  · obtain ⟨e1, e2⟩ := span_far' b
    rw [of_iff_far b d h0 h1 k0 k1]
    by_cases hq : b / 281474976710656 < 65535
    · obtain ⟨e3, e4⟩ := e2 hq
      rw [e1, e3, e4]
      simp only [decide_eq_true_eq]
      omega
    · rw [e1]
      simp only [decide_eq_true_eq]
      omega
  · have hl : l = 0 ∨ l = 1 ∨ l = 2 ∨ l = 3 ∨ l = 4 ∨ l = 5 ∨ l = 6 ∨ l = 7 := by omega
    rcases hl with rfl | rfl | rfl | rfl | rfl | rfl | rfl | rfl
    · obtain ⟨e1, e2, e3⟩ := span_lit0 b s h0 h1 hs1 hs64
      rw [of_iff_in0 b d s h0 h1 k0 k1, e1]
      by_cases hq : b % 64 < s
      · obtain ⟨e4, e5⟩ := e2 hq
        rw [e4, e5]
        simp only [decide_eq_true_eq]
        clear e1 e2 e3 e4 e5
        omega
      · simp only [decide_eq_true_eq]
        clear e1 e2 e3
        omega
    · obtain ⟨e1, e2, e3⟩ := span_lit1 b s h0 h1 hs1 hs64
      rw [of_iff_in1 b d s h0 h1 k0 k1, e1]
      by_cases hq : b / 64 % 64 < s
      · obtain ⟨e4, e5⟩ := e2 hq
        rw [e4, e5]
        simp only [decide_eq_true_eq]
        clear e1 e2 e3 e4 e5
        omega
      · simp only [decide_eq_true_eq]
        clear e1 e2 e3
        omega
    · obtain ⟨e1, e2, e3⟩ := span_lit2 b s h0 h1 hs1 hs64
      rw [of_iff_in2 b d s h0 h1 k0 k1, e1]
      by_cases hq : b / 4096 % 64 < s
      · obtain ⟨e4, e5⟩ := e2 hq
        rw [e4, e5]
        simp only [decide_eq_true_eq]
        clear e1 e2 e3 e4 e5
        omega
      · simp only [decide_eq_true_eq]
        clear e1 e2 e3
        omega
    · obtain ⟨e1, e2, e3⟩ := span_lit3 b s h0 h1 hs1 hs64
      rw [of_iff_in3 b d s h0 h1 k0 k1, e1]
      by_cases hq : b / 262144 % 64 < s
      · obtain ⟨e4, e5⟩ := e2 hq
        rw [e4, e5]
        simp only [decide_eq_true_eq]
        clear e1 e2 e3 e4 e5
        omega
      · simp only [decide_eq_true_eq]
        clear e1 e2 e3
        omega
    · obtain ⟨e1, e2, e3⟩ := span_lit4 b s h0 h1 hs1 hs64
      rw [of_iff_in4 b d s h0 h1 k0 k1, e1]
      by_cases hq : b / 16777216 % 64 < s
      · obtain ⟨e4, e5⟩ := e2 hq
        rw [e4, e5]
        simp only [decide_eq_true_eq]
        clear e1 e2 e3 e4 e5
        omega
      · simp only [decide_eq_true_eq]
        clear e1 e2 e3
        omega
    · obtain ⟨e1, e2, e3⟩ := span_lit5 b s h0 h1 hs1 hs64
      rw [of_iff_in5 b d s h0 h1 k0 k1, e1]
      by_cases hq : b / 1073741824 % 64 < s
      · obtain ⟨e4, e5⟩ := e2 hq
        rw [e4, e5]
        simp only [decide_eq_true_eq]
        clear e1 e2 e3 e4 e5
        omega
      · simp only [decide_eq_true_eq]
        clear e1 e2 e3
        omega
    · obtain ⟨e1, e2, e3⟩ := span_lit6 b s h0 h1 hs1 hs64
      rw [of_iff_in6 b d s h0 h1 k0 k1, e1]
      by_cases hq : b / 68719476736 % 64 < s
      · obtain ⟨e4, e5⟩ := e2 hq
        rw [e4, e5]
        simp only [decide_eq_true_eq]
        clear e1 e2 e3 e4 e5
        omega
      · simp only [decide_eq_true_eq]
        clear e1 e2 e3
        omega
    · obtain ⟨e1, e2, e3⟩ := span_lit7 b s h0 h1 hs1 hs64
      rw [of_iff_in7 b d s h0 h1 k0 k1, e1]
      by_cases hq : b / 4398046511104 % 64 < s
      · obtain ⟨e4, e5⟩ := e2 hq
        rw [e4, e5]
        simp only [decide_eq_true_eq]
        clear e1 e2 e3 e4 e5
        omega
      · simp only [decide_eq_true_eq]
        clear e1 e2 e3
        omega
theorem span_range (b l s : Int) (h0 : 0 ≤ b) (h1 : b ≤ 18446744073709551615) (h : spanB b l s = true) : 0 ≤ spanF b l s ∧ spanF b l s ≤ spanT b l s ∧ spanT b l s ≤ 18446744073709551615 := by
  rcases right_cases l s with hn | ⟨rfl, rfl⟩ | ⟨rfl, rfl⟩ | ⟨hl0, hl8, hs1, hs64⟩
  · simp [spanB, hn] at h
  · obtain ⟨e1, e2, e3⟩ := span_late' b
    rw [e2, e3]
    omega
  · obtain ⟨e1, e2⟩ := span_far' b
    have hq : b / 281474976710656 < 65535 := by
      rw [e1] at h
      simpa using h
    obtain ⟨e3, e4⟩ := e2 hq
    rw [e3, e4]
    omega
  · have hl : l = 0 ∨ l = 1 ∨ l = 2 ∨ l = 3 ∨ l = 4 ∨ l = 5 ∨ l = 6 ∨ l = 7 := by omega
    rcases hl with rfl | rfl | rfl | rfl | rfl | rfl | rfl | rfl
    · obtain ⟨e1, e2, e3⟩ := span_lit0 b s h0 h1 hs1 hs64
      have hq : b % 64 < s := by
        rw [e1] at h
        simpa using h
      obtain ⟨e4, e5⟩ := e2 hq
      rw [e4, e5]
      clear e1 e2 e3 e4 e5
      omega
    · obtain ⟨e1, e2, e3⟩ := span_lit1 b s h0 h1 hs1 hs64
      have hq : b / 64 % 64 < s := by
        rw [e1] at h
        simpa using h
      obtain ⟨e4, e5⟩ := e2 hq
      rw [e4, e5]
      clear e1 e2 e3 e4 e5
      omega
    · obtain ⟨e1, e2, e3⟩ := span_lit2 b s h0 h1 hs1 hs64
      have hq : b / 4096 % 64 < s := by
        rw [e1] at h
        simpa using h
      obtain ⟨e4, e5⟩ := e2 hq
      rw [e4, e5]
      clear e1 e2 e3 e4 e5
      omega
    · obtain ⟨e1, e2, e3⟩ := span_lit3 b s h0 h1 hs1 hs64
      have hq : b / 262144 % 64 < s := by
        rw [e1] at h
        simpa using h
      obtain ⟨e4, e5⟩ := e2 hq
      rw [e4, e5]
      clear e1 e2 e3 e4 e5
      omega
    · obtain ⟨e1, e2, e3⟩ := span_lit4 b s h0 h1 hs1 hs64
      have hq : b / 16777216 % 64 < s := by
        rw [e1] at h
        simpa using h
      obtain ⟨e4, e5⟩ := e2 hq
      rw [e4, e5]
      clear e1 e2 e3 e4 e5
      omega
    · obtain ⟨e1, e2, e3⟩ := span_lit5 b s h0 h1 hs1 hs64
      have hq : b / 1073741824 % 64 < s := by
        rw [e1] at h
        simpa using h
      obtain ⟨e4, e5⟩ := e2 hq
      rw [e4, e5]
      clear e1 e2 e3 e4 e5
      omega
    · obtain ⟨e1, e2, e3⟩ := span_lit6 b s h0 h1 hs1 hs64
      have hq : b / 68719476736 % 64 < s := by
        rw [e1] at h
        simpa using h
      obtain ⟨e4, e5⟩ := e2 hq
      rw [e4, e5]
      clear e1 e2 e3 e4 e5
      omega
    · obtain ⟨e1, e2, e3⟩ := span_lit7 b s h0 h1 hs1 hs64
      have hq : b / 4398046511104 % 64 < s := by
        rw [e1] at h
        simpa using h
      obtain ⟨e4, e5⟩ := e2 hq
      rw [e4, e5]
      clear e1 e2 e3 e4 e5
      omega
/-- The places ahead of a deadline's own hold lesser deadlines. -/
theorem less_key (l1 s1 l2 s2 : Int) : lessB l1 s1 l2 s2 = decide ((l1 ≠ l2 ∧ l1 < l2) ∨ (l1 = l2 ∧ s1 < s2)) := by
  rw [lessB]
  by_cases h : l1 = l2
  · simp [h]
  · simp [h]
end Go.Proofs.Ytnoafhfidecppaa
