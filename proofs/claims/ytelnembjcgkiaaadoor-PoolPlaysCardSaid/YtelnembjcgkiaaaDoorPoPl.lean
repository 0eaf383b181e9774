/- Whatever a pool is asked: PoolPlays. -/
import Derived.Test.YtelnembjcgkiaaaDoorPoPl2
import Derived.Test.YtelnembjcgkiaaaDoorPoPl3
namespace Go.Proofs.YtelnembjcgkiaaaDoor
open Go.RowKit
set_option linter.unusedVariables false
set_option linter.unusedSimpArgs false
theorem PoolPlays_walk (rm : Int) (a : Option Addr) (len cap : Nat) (at_ : Int) (W : World) (hT : Tab W) (_ : -9223372036854775808 ≤ rm) (_ : rm ≤ 9223372036854775807) (hf : Fit1 W (.slice actSh) (.slice a len cap)) (_ : -9223372036854775808 ≤ at_) (_ : at_ ≤ 9223372036854775807) :
    Calls Tryd.prog 6 #[.int .i64 rm, .slice a len cap, .int .i64 at_] W fun e w' => e = .returned (.bool true) ∧ Below W.heap.size W w' := by
  by_cases hbad : rm < 1 ∨ 4096 < rm
  · exact PoolPlays_bad rm a len cap at_ W hT hbad hf
  · by_cases h40 : 40 < rm
    · exact PoolPlays_big rm a len cap at_ W hT h40 (by omega) hf
    · exact PoolPlays_small rm a len cap at_ W hT (by omega) (by omega) hf
end Go.Proofs.YtelnembjcgkiaaaDoor
