/- The plain law of digits: a number's quotients; the top level of two numbers. -/
import Derived.Test.YtnoafhfidecppaaDoorBitsA
namespace Go.Proofs.YtnoafhfidecppaaDoor
open Go.RowKit
set_option linter.unusedVariables false
set_option linter.unusedSimpArgs false
theorem dgl_inj {a b : Int} (h : (dgl a == dgl b) = true) : a = b := by
  simp [dgl] at h
  omega
/-- A number's quotients, each by 64 of the one before. -/
theorem chain (n : Int) (h0 : 0 ≤ n) (h1 : n ≤ 18446744073709551615) : ∃ n1 n2 n3 n4 n5 n6 n7 n8 : Int, (n / 64 = n1 ∧ n / 4096 = n2 ∧ n / 262144 = n3 ∧ n / 16777216 = n4 ∧ n / 1073741824 = n5 ∧ n / 68719476736 = n6 ∧ n / 4398046511104 = n7 ∧ n / 281474976710656 = n8) ∧ (64 * n1 ≤ n ∧ n < 64 * n1 + 64) ∧ (64 * n2 ≤ n1 ∧ n1 < 64 * n2 + 64) ∧ (64 * n3 ≤ n2 ∧ n2 < 64 * n3 + 64) ∧ (64 * n4 ≤ n3 ∧ n3 < 64 * n4 + 64) ∧ (64 * n5 ≤ n4 ∧ n4 < 64 * n5 + 64) ∧ (64 * n6 ≤ n5 ∧ n5 < 64 * n6 + 64) ∧ (64 * n7 ≤ n6 ∧ n6 < 64 * n7 + 64) ∧ (64 * n8 ≤ n7 ∧ n7 < 64 * n8 + 64) ∧ 0 ≤ n8 ∧ n8 ≤ 65535 :=
  ⟨_, _, _, _, _, _, _, _, ⟨rfl, rfl, rfl, rfl, rfl, rfl, rfl, rfl⟩, ⟨by omega, by omega⟩, ⟨by omega, by omega⟩, ⟨by omega, by omega⟩, ⟨by omega, by omega⟩, ⟨by omega, by omega⟩, ⟨by omega, by omega⟩, ⟨by omega, by omega⟩, ⟨by omega, by omega⟩, by omega, by omega⟩
theorem top_cases (a b : Int) (h0 : 0 ≤ a) (h1 : a ≤ 18446744073709551615) (k0 : 0 ≤ b) (k1 : b ≤ 18446744073709551615) :
    (a = b ∧ topI a b = -1) ∨ (a / 64 = b / 64 ∧ a ≠ b ∧ topI a b = 0) ∨ (a / 4096 = b / 4096 ∧ a / 64 ≠ b / 64 ∧ topI a b = 1) ∨ (a / 262144 = b / 262144 ∧ a / 4096 ≠ b / 4096 ∧ topI a b = 2) ∨ (a / 16777216 = b / 16777216 ∧ a / 262144 ≠ b / 262144 ∧ topI a b = 3) ∨ (a / 1073741824 = b / 1073741824 ∧ a / 16777216 ≠ b / 16777216 ∧ topI a b = 4) ∨ (a / 68719476736 = b / 68719476736 ∧ a / 1073741824 ≠ b / 1073741824 ∧ topI a b = 5) ∨ (a / 4398046511104 = b / 4398046511104 ∧ a / 68719476736 ≠ b / 68719476736 ∧ topI a b = 6) ∨ (a / 281474976710656 = b / 281474976710656 ∧ a / 4398046511104 ≠ b / 4398046511104 ∧ topI a b = 7) ∨ (a / 281474976710656 ≠ b / 281474976710656 ∧ topI a b = 8) := by
  by_cases hd : (dgl a == dgl b) = true
  · have := dgl_inj hd
    left
    exact ⟨this, by rw [topI, if_pos hd]⟩
  · have hne : a ≠ b := by
      intro e
      subst e
      simp at hd
    rw [topI, if_neg hd]
    clear hd
    simp only [bne_iff_ne, ne_eq]
    obtain ⟨a1, a2, a3, a4, a5, a6, a7, a8, ⟨ea1, ea2, ea3, ea4, ea5, ea6, ea7, ea8⟩, ⟨la1, ua1⟩, ⟨la2, ua2⟩, ⟨la3, ua3⟩, ⟨la4, ua4⟩, ⟨la5, ua5⟩, ⟨la6, ua6⟩, ⟨la7, ua7⟩, ⟨la8, ua8⟩, za, ta⟩ := chain a h0 h1
    obtain ⟨b1, b2, b3, b4, b5, b6, b7, b8, ⟨eb1, eb2, eb3, eb4, eb5, eb6, eb7, eb8⟩, ⟨lb1, ub1⟩, ⟨lb2, ub2⟩, ⟨lb3, ub3⟩, ⟨lb4, ub4⟩, ⟨lb5, ub5⟩, ⟨lb6, ub6⟩, ⟨lb7, ub7⟩, ⟨lb8, ub8⟩, zb, tb⟩ := chain b k0 k1
    simp only [ea1, ea2, ea3, ea4, ea5, ea6, ea7, ea8, eb1, eb2, eb3, eb4, eb5, eb6, eb7, eb8]
    by_cases t8 : a8 = b8
    · rw [if_neg (not_not_intro t8)]
      by_cases t7 : a7 % 64 = b7 % 64
      · rw [if_neg (not_not_intro t7)]
        by_cases t6 : a6 % 64 = b6 % 64
        · rw [if_neg (not_not_intro t6)]
          by_cases t5 : a5 % 64 = b5 % 64
          · rw [if_neg (not_not_intro t5)]
            by_cases t4 : a4 % 64 = b4 % 64
            · rw [if_neg (not_not_intro t4)]
              by_cases t3 : a3 % 64 = b3 % 64
              · rw [if_neg (not_not_intro t3)]
                by_cases t2 : a2 % 64 = b2 % 64
                · rw [if_neg (not_not_intro t2)]
                  by_cases t1 : a1 % 64 = b1 % 64
                  · rw [if_neg (not_not_intro t1)]
                    exact .inr (.inl (⟨by omega, hne, rfl⟩))
                  · rw [if_pos t1]
                    exact .inr (.inr (.inl (⟨by omega, by omega, rfl⟩)))
                · rw [if_pos t2]
                  exact .inr (.inr (.inr (.inl (⟨by omega, by omega, rfl⟩))))
              · rw [if_pos t3]
                exact .inr (.inr (.inr (.inr (.inl (⟨by omega, by omega, rfl⟩)))))
            · rw [if_pos t4]
              exact .inr (.inr (.inr (.inr (.inr (.inl (⟨by omega, by omega, rfl⟩))))))
          · rw [if_pos t5]
            exact .inr (.inr (.inr (.inr (.inr (.inr (.inl (⟨by omega, by omega, rfl⟩)))))))
        · rw [if_pos t6]
          exact .inr (.inr (.inr (.inr (.inr (.inr (.inr (.inl (⟨by omega, by omega, rfl⟩))))))))
      · rw [if_pos t7]
        exact .inr (.inr (.inr (.inr (.inr (.inr (.inr (.inr (.inl (⟨by omega, by omega, rfl⟩)))))))))
    · rw [if_pos t8]
      exact .inr (.inr (.inr (.inr (.inr (.inr (.inr (.inr (.inr ((⟨t8, rfl⟩))))))))))

end Go.Proofs.YtnoafhfidecppaaDoor
