/-
  NARROWER THAN 'FOR EVERY INPUT', by the rows' own cells (each row's printed sentence says how): BitsDigits: laid · BitsTop: laid · BitsFields: laid · BitsHalves: laid · OccGoes: laid · OccTurns: laid · OccTells: laid.
  DERIVED. THE GIVEN ROWS OF THIS SEAT. 7 by the template 'for every input the law returns true; each argument reads behind the call as it read before'; 0 by the template 'total and deterministic' (their statements: YtnoafhfidecppaaDoorTotals.lean).
  GIVEN WITH THE SEED: the statements are not yours to turn. If you find one false, say at which input.
  Laid BY PROGRAM, IN A SANDBOX (cutbox-rows.mjs): the forced cells as the released guide's own fill.sh prints them over the translation bc27ec2e462c0ad1… (all of the seat's roots in one cut). By AI agents, Wed Nov 11 2026. No macro, syntax, notation, axiom, sorry.
-/
import Derived.Test.YtnoafhfidecppaaDoorChecked
import GoSem.Claim
import GoSem.ClaimJoined
import GoSem.ClaimMapViews
import Derived.JoinedTies
import Derived.KernelRfl
namespace Go.Proofs.YtnoafhfidecppaaDoor
/- THE CELL 'sum', in the pinned program and in every row, IS THE sha256 OF THE DUMP (.gsa) THAT YtnoafhfidecppaaDoorProg.lean LOADS. Nothing in Lean hashes anything: it is a label: what it is worth is what the hold of that sum in a sandbox is worth. -/
noncomputable def Tryd.pinned : Pinned := { name := "ytnoafhfidecppaadoor", sum := "bc27ec2e462c0ad16d40e7fda44c9dd3cef7adde539ccb1719aea41e1715884b", checked := Tryd.checked }
namespace Rows
def none {H : Type} : Left H := { results := [], args := [] }

/- WHAT THE LISTED PACKAGE-LEVEL VARIABLES READ AS WHEN THE CALL BEGINS. Each datum BY PROGRAM (the guide's laid-datum.mjs) off the statement by which the dump's own 'gosem.cut.vars' lays the variable. In a bare row this is a premise. The card (YtnoafhfidecppaaDoorCards.lean) ties it to the program's text. -/
def laid_math_bits_deBruijn64tab {H : Type} : DataW H := .agg [.lit (.int .u8 0), .lit (.int .u8 1), .lit (.int .u8 56), .lit (.int .u8 2), .lit (.int .u8 57), .lit (.int .u8 49), .lit (.int .u8 28), .lit (.int .u8 3), .lit (.int .u8 61), .lit (.int .u8 58), .lit (.int .u8 42), .lit (.int .u8 50), .lit (.int .u8 38), .lit (.int .u8 29), .lit (.int .u8 17), .lit (.int .u8 4), .lit (.int .u8 62), .lit (.int .u8 47), .lit (.int .u8 59), .lit (.int .u8 36), .lit (.int .u8 45), .lit (.int .u8 43), .lit (.int .u8 51), .lit (.int .u8 22), .lit (.int .u8 53), .lit (.int .u8 39), .lit (.int .u8 33), .lit (.int .u8 30), .lit (.int .u8 24), .lit (.int .u8 18), .lit (.int .u8 12), .lit (.int .u8 5), .lit (.int .u8 63), .lit (.int .u8 55), .lit (.int .u8 48), .lit (.int .u8 27), .lit (.int .u8 60), .lit (.int .u8 41), .lit (.int .u8 37), .lit (.int .u8 16), .lit (.int .u8 46), .lit (.int .u8 35), .lit (.int .u8 44), .lit (.int .u8 21), .lit (.int .u8 52), .lit (.int .u8 32), .lit (.int .u8 23), .lit (.int .u8 11), .lit (.int .u8 54), .lit (.int .u8 26), .lit (.int .u8 40), .lit (.int .u8 15), .lit (.int .u8 34), .lit (.int .u8 20), .lit (.int .u8 31), .lit (.int .u8 10), .lit (.int .u8 25), .lit (.int .u8 14), .lit (.int .u8 19), .lit (.int .u8 9), .lit (.int .u8 13), .lit (.int .u8 8), .lit (.int .u8 7), .lit (.int .u8 6)]

/-- 'minuterielaw01.BitsDigits': WHATEVER THE INPUT: true; the input reads as it did. -/
def bitsDigitsSpec : ChangeSpec := { name := "bitsDigits", fn := fun _ => fun
  | [d1, d2, d3, d4] => { results := [.lit (.bool true)], args := [d1, d2, d3, d4] }
  | _ => none }
def bitsDigitsRow : OpenClaim := { program := "ytnoafhfidecppaadoor", sum := "bc27ec2e462c0ad16d40e7fda44c9dd3cef7adde539ccb1719aea41e1715884b", func := "minuterie/minuterielaw01.BitsDigits", spec := "bitsDigits", unfollowed := true, recurses := true, named := ["math/bits.deBruijn64tab"], apart := false, laid := [("math/bits.deBruijn64tab", laid_math_bits_deBruijn64tab)] }
def BitsDigitsSaid : Prop := bitsDigitsRow.holds Tryd.pinned (OpenSpec.ofChange bitsDigitsSpec)

/-- ITS FALSE NEIGHBOUR: 'it returns false'. Refute it at one input. -/
def bitsDigitsWrong : ChangeSpec := { name := "bitsDigits", fn := fun _ => fun
  | [d1, d2, d3, d4] => { results := [.lit (.bool false)], args := [d1, d2, d3, d4] }
  | _ => none }
def BitsDigitsWrongFalsely : Prop := bitsDigitsRow.holds Tryd.pinned (OpenSpec.ofChange bitsDigitsWrong)

/-- 'minuterielaw01.BitsTop': WHATEVER THE INPUT: true; the input reads as it did. -/
def bitsTopSpec : ChangeSpec := { name := "bitsTop", fn := fun _ => fun
  | [d1, d2] => { results := [.lit (.bool true)], args := [d1, d2] }
  | _ => none }
def bitsTopRow : OpenClaim := { program := "ytnoafhfidecppaadoor", sum := "bc27ec2e462c0ad16d40e7fda44c9dd3cef7adde539ccb1719aea41e1715884b", func := "minuterie/minuterielaw01.BitsTop", spec := "bitsTop", unfollowed := true, recurses := true, named := ["math/bits.deBruijn64tab"], apart := false, laid := [("math/bits.deBruijn64tab", laid_math_bits_deBruijn64tab)] }
def BitsTopSaid : Prop := bitsTopRow.holds Tryd.pinned (OpenSpec.ofChange bitsTopSpec)

/-- ITS FALSE NEIGHBOUR: 'it returns false'. Refute it at one input. -/
def bitsTopWrong : ChangeSpec := { name := "bitsTop", fn := fun _ => fun
  | [d1, d2] => { results := [.lit (.bool false)], args := [d1, d2] }
  | _ => none }
def BitsTopWrongFalsely : Prop := bitsTopRow.holds Tryd.pinned (OpenSpec.ofChange bitsTopWrong)

/-- 'minuterielaw01.BitsFields': WHATEVER THE INPUT: true; the input reads as it did. -/
def bitsFieldsSpec : ChangeSpec := { name := "bitsFields", fn := fun _ => fun
  | [d1, d2, d3, d4, d5, d6] => { results := [.lit (.bool true)], args := [d1, d2, d3, d4, d5, d6] }
  | _ => none }
def bitsFieldsRow : OpenClaim := { program := "ytnoafhfidecppaadoor", sum := "bc27ec2e462c0ad16d40e7fda44c9dd3cef7adde539ccb1719aea41e1715884b", func := "minuterie/minuterielaw01.BitsFields", spec := "bitsFields", unfollowed := true, recurses := true, named := ["math/bits.deBruijn64tab"], apart := false, laid := [("math/bits.deBruijn64tab", laid_math_bits_deBruijn64tab)] }
def BitsFieldsSaid : Prop := bitsFieldsRow.holds Tryd.pinned (OpenSpec.ofChange bitsFieldsSpec)

/-- ITS FALSE NEIGHBOUR: 'it returns false'. Refute it at one input. -/
def bitsFieldsWrong : ChangeSpec := { name := "bitsFields", fn := fun _ => fun
  | [d1, d2, d3, d4, d5, d6] => { results := [.lit (.bool false)], args := [d1, d2, d3, d4, d5, d6] }
  | _ => none }
def BitsFieldsWrongFalsely : Prop := bitsFieldsRow.holds Tryd.pinned (OpenSpec.ofChange bitsFieldsWrong)

/-- 'minuterielaw01.BitsHalves': WHATEVER THE INPUT: true; the input reads as it did. -/
def bitsHalvesSpec : ChangeSpec := { name := "bitsHalves", fn := fun _ => fun
  | [d1, d2, d3] => { results := [.lit (.bool true)], args := [d1, d2, d3] }
  | _ => none }
def bitsHalvesRow : OpenClaim := { program := "ytnoafhfidecppaadoor", sum := "bc27ec2e462c0ad16d40e7fda44c9dd3cef7adde539ccb1719aea41e1715884b", func := "minuterie/minuterielaw01.BitsHalves", spec := "bitsHalves", inPlace := ["math/bits.Add64", "math/bits.Sub64"], unfollowed := true, recurses := true, named := ["math/bits.deBruijn64tab"], apart := false, laid := [("math/bits.deBruijn64tab", laid_math_bits_deBruijn64tab)] }
def BitsHalvesSaid : Prop := bitsHalvesRow.holds Tryd.pinned (OpenSpec.ofChange bitsHalvesSpec)

/-- ITS FALSE NEIGHBOUR: 'it returns false'. Refute it at one input. -/
def bitsHalvesWrong : ChangeSpec := { name := "bitsHalves", fn := fun _ => fun
  | [d1, d2, d3] => { results := [.lit (.bool false)], args := [d1, d2, d3] }
  | _ => none }
def BitsHalvesWrongFalsely : Prop := bitsHalvesRow.holds Tryd.pinned (OpenSpec.ofChange bitsHalvesWrong)

/-- 'minuterielaw15.OccGoes': WHATEVER THE INPUT: true; the input reads as it did. -/
def occGoesSpec : ChangeSpec := { name := "occGoes", fn := fun _ => fun
  | [d1, d2] => { results := [.lit (.bool true)], args := [d1, d2] }
  | _ => none }
def occGoesRow : OpenClaim := { program := "ytnoafhfidecppaadoor", sum := "bc27ec2e462c0ad16d40e7fda44c9dd3cef7adde539ccb1719aea41e1715884b", func := "minuterie/minuterielaw15.OccGoes", spec := "occGoes", unfollowed := true, recurses := true, named := ["math/bits.deBruijn64tab"], apart := false, laid := [("math/bits.deBruijn64tab", laid_math_bits_deBruijn64tab)] }
def OccGoesSaid : Prop := occGoesRow.holds Tryd.pinned (OpenSpec.ofChange occGoesSpec)

/-- ITS FALSE NEIGHBOUR: 'it returns false'. Refute it at one input. -/
def occGoesWrong : ChangeSpec := { name := "occGoes", fn := fun _ => fun
  | [d1, d2] => { results := [.lit (.bool false)], args := [d1, d2] }
  | _ => none }
def OccGoesWrongFalsely : Prop := occGoesRow.holds Tryd.pinned (OpenSpec.ofChange occGoesWrong)

/-- 'minuterielaw15.OccTurns': WHATEVER THE INPUT: true; the input reads as it did. -/
def occTurnsSpec : ChangeSpec := { name := "occTurns", fn := fun _ => fun
  | [d1, d2, d3, d4] => { results := [.lit (.bool true)], args := [d1, d2, d3, d4] }
  | _ => none }
def occTurnsRow : OpenClaim := { program := "ytnoafhfidecppaadoor", sum := "bc27ec2e462c0ad16d40e7fda44c9dd3cef7adde539ccb1719aea41e1715884b", func := "minuterie/minuterielaw15.OccTurns", spec := "occTurns", unfollowed := true, recurses := true, named := ["math/bits.deBruijn64tab"], apart := false, laid := [("math/bits.deBruijn64tab", laid_math_bits_deBruijn64tab)] }
def OccTurnsSaid : Prop := occTurnsRow.holds Tryd.pinned (OpenSpec.ofChange occTurnsSpec)

/-- ITS FALSE NEIGHBOUR: 'it returns false'. Refute it at one input. -/
def occTurnsWrong : ChangeSpec := { name := "occTurns", fn := fun _ => fun
  | [d1, d2, d3, d4] => { results := [.lit (.bool false)], args := [d1, d2, d3, d4] }
  | _ => none }
def OccTurnsWrongFalsely : Prop := occTurnsRow.holds Tryd.pinned (OpenSpec.ofChange occTurnsWrong)

/-- 'minuterielaw15.OccTells': WHATEVER THE INPUT: true; the input reads as it did. -/
def occTellsSpec : ChangeSpec := { name := "occTells", fn := fun _ => fun
  | [d1, d2] => { results := [.lit (.bool true)], args := [d1, d2] }
  | _ => none }
def occTellsRow : OpenClaim := { program := "ytnoafhfidecppaadoor", sum := "bc27ec2e462c0ad16d40e7fda44c9dd3cef7adde539ccb1719aea41e1715884b", func := "minuterie/minuterielaw15.OccTells", spec := "occTells", unfollowed := true, recurses := true, named := ["math/bits.deBruijn64tab"], apart := false, laid := [("math/bits.deBruijn64tab", laid_math_bits_deBruijn64tab)] }
def OccTellsSaid : Prop := occTellsRow.holds Tryd.pinned (OpenSpec.ofChange occTellsSpec)

/-- ITS FALSE NEIGHBOUR: 'it returns false'. Refute it at one input. -/
def occTellsWrong : ChangeSpec := { name := "occTells", fn := fun _ => fun
  | [d1, d2] => { results := [.lit (.bool false)], args := [d1, d2] }
  | _ => none }
def OccTellsWrongFalsely : Prop := occTellsRow.holds Tryd.pinned (OpenSpec.ofChange occTellsWrong)

/- THE SECOND FORM. 'bulk': how many values and letters a reading holds, each counted each time it is reached (what is shared counts as often as it is met; a slice's spare places count too). A statement '..UptoSaid' is the law's where the arguments, and the package variables that the reading takes, are together of bulk at most 1048576: NARROWER than '..Said'. Prove '..Said' where nothing that the law and all that it calls make is longer than what came in: it says more and counts as full. Else prove '..UptoSaid'. A law counts once. -/
mutual
def uptoBulk {H : Type} : DataW H → Nat
  | .lit (.string bytes) => bytes.length + 1
  | .lit _ => 1
  | .nil => 1
  | .ptr d => uptoBulk d + 1
  | .slice elems spare => uptoBulkAll elems + uptoBulkAll spare + 1
  | .agg parts => uptoBulkAll parts + 1
  | .iface _ d => uptoBulk d + 1
  | .map entries => uptoBulkEntries entries + 1
  | .held _ => 1
def uptoBulkAll {H : Type} : List (DataW H) → Nat
  | [] => 0
  | d :: r => uptoBulk d + uptoBulkAll r
def uptoBulkEntries {H : Type} : List (Lit × DataW H) → Nat
  | [] => 0
  | x :: r => uptoBulkEntry x + uptoBulkEntries r
def uptoBulkEntry {H : Type} : Lit × DataW H → Nat
  | (.string bytes, d) => bytes.length + uptoBulk d + 1
  | (_, d) => uptoBulk d + 1
 end
def uptoSmall : (H : Type) → List (DataW H) → Bool := fun _ ds => decide (uptoBulkAll ds ≤ 1048576)
def OpenSpec.upto (s : _root_.Go.ChangeSpec) : _root_.Go.OpenSpec := { _root_.Go.OpenSpec.ofChange s with cond := some uptoSmall }

/-- 'minuterielaw01.BitsDigits', WHERE WHAT IT READS IS OF BULK AT MOST 1048576: true; the input reads as it did. -/
def bitsDigitsUptoRow : OpenClaim := { program := "ytnoafhfidecppaadoor", sum := "bc27ec2e462c0ad16d40e7fda44c9dd3cef7adde539ccb1719aea41e1715884b", func := "minuterie/minuterielaw01.BitsDigits", spec := "bitsDigits", unfollowed := true, recurses := true, named := ["math/bits.deBruijn64tab"], apart := false, laid := [("math/bits.deBruijn64tab", laid_math_bits_deBruijn64tab)], narrowed := true }
def BitsDigitsUptoSaid : Prop := bitsDigitsUptoRow.holds Tryd.pinned (OpenSpec.upto bitsDigitsSpec)

/-- 'minuterielaw01.BitsTop', WHERE WHAT IT READS IS OF BULK AT MOST 1048576: true; the input reads as it did. -/
def bitsTopUptoRow : OpenClaim := { program := "ytnoafhfidecppaadoor", sum := "bc27ec2e462c0ad16d40e7fda44c9dd3cef7adde539ccb1719aea41e1715884b", func := "minuterie/minuterielaw01.BitsTop", spec := "bitsTop", unfollowed := true, recurses := true, named := ["math/bits.deBruijn64tab"], apart := false, laid := [("math/bits.deBruijn64tab", laid_math_bits_deBruijn64tab)], narrowed := true }
def BitsTopUptoSaid : Prop := bitsTopUptoRow.holds Tryd.pinned (OpenSpec.upto bitsTopSpec)

/-- 'minuterielaw01.BitsFields', WHERE WHAT IT READS IS OF BULK AT MOST 1048576: true; the input reads as it did. -/
def bitsFieldsUptoRow : OpenClaim := { program := "ytnoafhfidecppaadoor", sum := "bc27ec2e462c0ad16d40e7fda44c9dd3cef7adde539ccb1719aea41e1715884b", func := "minuterie/minuterielaw01.BitsFields", spec := "bitsFields", unfollowed := true, recurses := true, named := ["math/bits.deBruijn64tab"], apart := false, laid := [("math/bits.deBruijn64tab", laid_math_bits_deBruijn64tab)], narrowed := true }
def BitsFieldsUptoSaid : Prop := bitsFieldsUptoRow.holds Tryd.pinned (OpenSpec.upto bitsFieldsSpec)

/-- 'minuterielaw01.BitsHalves', WHERE WHAT IT READS IS OF BULK AT MOST 1048576: true; the input reads as it did. -/
def bitsHalvesUptoRow : OpenClaim := { program := "ytnoafhfidecppaadoor", sum := "bc27ec2e462c0ad16d40e7fda44c9dd3cef7adde539ccb1719aea41e1715884b", func := "minuterie/minuterielaw01.BitsHalves", spec := "bitsHalves", inPlace := ["math/bits.Add64", "math/bits.Sub64"], unfollowed := true, recurses := true, named := ["math/bits.deBruijn64tab"], apart := false, laid := [("math/bits.deBruijn64tab", laid_math_bits_deBruijn64tab)], narrowed := true }
def BitsHalvesUptoSaid : Prop := bitsHalvesUptoRow.holds Tryd.pinned (OpenSpec.upto bitsHalvesSpec)

/-- 'minuterielaw15.OccGoes', WHERE WHAT IT READS IS OF BULK AT MOST 1048576: true; the input reads as it did. -/
def occGoesUptoRow : OpenClaim := { program := "ytnoafhfidecppaadoor", sum := "bc27ec2e462c0ad16d40e7fda44c9dd3cef7adde539ccb1719aea41e1715884b", func := "minuterie/minuterielaw15.OccGoes", spec := "occGoes", unfollowed := true, recurses := true, named := ["math/bits.deBruijn64tab"], apart := false, laid := [("math/bits.deBruijn64tab", laid_math_bits_deBruijn64tab)], narrowed := true }
def OccGoesUptoSaid : Prop := occGoesUptoRow.holds Tryd.pinned (OpenSpec.upto occGoesSpec)

/-- 'minuterielaw15.OccTurns', WHERE WHAT IT READS IS OF BULK AT MOST 1048576: true; the input reads as it did. -/
def occTurnsUptoRow : OpenClaim := { program := "ytnoafhfidecppaadoor", sum := "bc27ec2e462c0ad16d40e7fda44c9dd3cef7adde539ccb1719aea41e1715884b", func := "minuterie/minuterielaw15.OccTurns", spec := "occTurns", unfollowed := true, recurses := true, named := ["math/bits.deBruijn64tab"], apart := false, laid := [("math/bits.deBruijn64tab", laid_math_bits_deBruijn64tab)], narrowed := true }
def OccTurnsUptoSaid : Prop := occTurnsUptoRow.holds Tryd.pinned (OpenSpec.upto occTurnsSpec)

/-- 'minuterielaw15.OccTells', WHERE WHAT IT READS IS OF BULK AT MOST 1048576: true; the input reads as it did. -/
def occTellsUptoRow : OpenClaim := { program := "ytnoafhfidecppaadoor", sum := "bc27ec2e462c0ad16d40e7fda44c9dd3cef7adde539ccb1719aea41e1715884b", func := "minuterie/minuterielaw15.OccTells", spec := "occTells", unfollowed := true, recurses := true, named := ["math/bits.deBruijn64tab"], apart := false, laid := [("math/bits.deBruijn64tab", laid_math_bits_deBruijn64tab)], narrowed := true }
def OccTellsUptoSaid : Prop := occTellsUptoRow.holds Tryd.pinned (OpenSpec.upto occTellsSpec)

end Rows
end Go.Proofs.YtnoafhfidecppaaDoor
