/-
  No cell of these rows narrows 'for every input' (looked for: loops, veiled, ifaces, maps, wideKeys, modest, calm, conditions, laid).
  DERIVED. THE GIVEN ROWS OF THIS SEAT. 8 by the template 'for every input the law returns true; each argument reads behind the call as it read before'; 0 by the template 'total and deterministic' (their statements: YtaihebdjhbnhoaaTotals.lean).
  GIVEN WITH THE SEED: the statements are not yours to turn. If you find one false, say at which input.
  Laid BY PROGRAM, IN A SANDBOX (cutbox-rows.mjs): the forced cells as the released guide's own fill.sh prints them over the translation 0425a0a8520d853a… (all of the seat's roots in one cut). By AI agents, Wed Nov 11 2026. No macro, syntax, notation, axiom, sorry.
-/
import Derived.Test.YtaihebdjhbnhoaaChecked
import GoSem.Claim
import GoSem.ClaimJoined
import GoSem.ClaimMapViews
import Derived.JoinedTies
import Derived.KernelRfl
namespace Go.Proofs.Ytaihebdjhbnhoaa
/- THE CELL 'sum', in the pinned program and in every row, IS THE sha256 OF THE DUMP (.gsa) THAT YtaihebdjhbnhoaaProg.lean LOADS. Nothing in Lean hashes anything: it is a label: what it is worth is what the hold of that sum in a sandbox is worth. -/
noncomputable def Try.pinned : Pinned := { name := "ytaihebdjhbnhoaa", sum := "0425a0a8520d853afc739bb70017607bf5ea87e93aad743a8884bc6d5702e316", checked := Try.checked }
namespace Rows
def none {H : Type} : Left H := { results := [], args := [] }

/-- 'minuterielaw33.HistEnds': WHATEVER THE INPUT: true; the input reads as it did. -/
def histEndsSpec : ChangeSpec := { name := "histEnds", fn := fun _ => fun
  | [d1, d2] => { results := [.lit (.bool true)], args := [d1, d2] }
  | _ => none }
def histEndsRow : OpenClaim := { program := "ytaihebdjhbnhoaa", sum := "0425a0a8520d853afc739bb70017607bf5ea87e93aad743a8884bc6d5702e316", func := "minuterie/minuterielaw33.HistEnds", spec := "histEnds", inPlace := ["math/bits.Add64"], apart := false }
def HistEndsSaid : Prop := histEndsRow.holds Try.pinned (OpenSpec.ofChange histEndsSpec)

/-- ITS FALSE NEIGHBOUR: 'it returns false'. Refute it at one input. -/
def histEndsWrong : ChangeSpec := { name := "histEnds", fn := fun _ => fun
  | [d1, d2] => { results := [.lit (.bool false)], args := [d1, d2] }
  | _ => none }
def HistEndsWrongFalsely : Prop := histEndsRow.holds Try.pinned (OpenSpec.ofChange histEndsWrong)

/-- 'minuterielaw33.HistParts': WHATEVER THE INPUT: true; the input reads as it did. -/
def histPartsSpec : ChangeSpec := { name := "histParts", fn := fun _ => fun
  | [d1, d2, d3] => { results := [.lit (.bool true)], args := [d1, d2, d3] }
  | _ => none }
def histPartsRow : OpenClaim := { program := "ytaihebdjhbnhoaa", sum := "0425a0a8520d853afc739bb70017607bf5ea87e93aad743a8884bc6d5702e316", func := "minuterie/minuterielaw33.HistParts", spec := "histParts", inPlace := ["math/bits.Add64"], apart := false }
def HistPartsSaid : Prop := histPartsRow.holds Try.pinned (OpenSpec.ofChange histPartsSpec)

/-- ITS FALSE NEIGHBOUR: 'it returns false'. Refute it at one input. -/
def histPartsWrong : ChangeSpec := { name := "histParts", fn := fun _ => fun
  | [d1, d2, d3] => { results := [.lit (.bool false)], args := [d1, d2, d3] }
  | _ => none }
def HistPartsWrongFalsely : Prop := histPartsRow.holds Try.pinned (OpenSpec.ofChange histPartsWrong)

/-- 'minuterielaw33.HistAdds': WHATEVER THE INPUT: true; the input reads as it did. -/
def histAddsSpec : ChangeSpec := { name := "histAdds", fn := fun _ => fun
  | [d1, d2] => { results := [.lit (.bool true)], args := [d1, d2] }
  | _ => none }
def histAddsRow : OpenClaim := { program := "ytaihebdjhbnhoaa", sum := "0425a0a8520d853afc739bb70017607bf5ea87e93aad743a8884bc6d5702e316", func := "minuterie/minuterielaw33.HistAdds", spec := "histAdds", inPlace := ["math/bits.Add64"], apart := false }
def HistAddsSaid : Prop := histAddsRow.holds Try.pinned (OpenSpec.ofChange histAddsSpec)

/-- ITS FALSE NEIGHBOUR: 'it returns false'. Refute it at one input. -/
def histAddsWrong : ChangeSpec := { name := "histAdds", fn := fun _ => fun
  | [d1, d2] => { results := [.lit (.bool false)], args := [d1, d2] }
  | _ => none }
def HistAddsWrongFalsely : Prop := histAddsRow.holds Try.pinned (OpenSpec.ofChange histAddsWrong)

/-- 'minuterielaw33.HistMerges': WHATEVER THE INPUT: true; the input reads as it did. -/
def histMergesSpec : ChangeSpec := { name := "histMerges", fn := fun _ => fun
  | [d1, d2, d3] => { results := [.lit (.bool true)], args := [d1, d2, d3] }
  | _ => none }
def histMergesRow : OpenClaim := { program := "ytaihebdjhbnhoaa", sum := "0425a0a8520d853afc739bb70017607bf5ea87e93aad743a8884bc6d5702e316", func := "minuterie/minuterielaw33.HistMerges", spec := "histMerges", inPlace := ["math/bits.Add64"], apart := false }
def HistMergesSaid : Prop := histMergesRow.holds Try.pinned (OpenSpec.ofChange histMergesSpec)

/-- ITS FALSE NEIGHBOUR: 'it returns false'. Refute it at one input. -/
def histMergesWrong : ChangeSpec := { name := "histMerges", fn := fun _ => fun
  | [d1, d2, d3] => { results := [.lit (.bool false)], args := [d1, d2, d3] }
  | _ => none }
def HistMergesWrongFalsely : Prop := histMergesRow.holds Try.pinned (OpenSpec.ofChange histMergesWrong)

/-- 'minuterielaw33.HistNil': WHATEVER THE INPUT: true; the input reads as it did. -/
def histNilSpec : ChangeSpec := { name := "histNil", fn := fun _ => fun
  | [d1, d2] => { results := [.lit (.bool true)], args := [d1, d2] }
  | _ => none }
def histNilRow : OpenClaim := { program := "ytaihebdjhbnhoaa", sum := "0425a0a8520d853afc739bb70017607bf5ea87e93aad743a8884bc6d5702e316", func := "minuterie/minuterielaw33.HistNil", spec := "histNil", inPlace := ["math/bits.Add64"], apart := false }
def HistNilSaid : Prop := histNilRow.holds Try.pinned (OpenSpec.ofChange histNilSpec)

/-- ITS FALSE NEIGHBOUR: 'it returns false'. Refute it at one input. -/
def histNilWrong : ChangeSpec := { name := "histNil", fn := fun _ => fun
  | [d1, d2] => { results := [.lit (.bool false)], args := [d1, d2] }
  | _ => none }
def HistNilWrongFalsely : Prop := histNilRow.holds Try.pinned (OpenSpec.ofChange histNilWrong)

/-- 'minuterielaw05.ClintLines': WHATEVER THE INPUT: true; the input reads as it did. -/
def clintLinesSpec : ChangeSpec := { name := "clintLines", fn := fun _ => fun
  | [d1, d2, d3, d4, d5, d6] => { results := [.lit (.bool true)], args := [d1, d2, d3, d4, d5, d6] }
  | _ => none }
def clintLinesRow : OpenClaim := { program := "ytaihebdjhbnhoaa", sum := "0425a0a8520d853afc739bb70017607bf5ea87e93aad743a8884bc6d5702e316", func := "minuterie/minuterielaw05.ClintLines", spec := "clintLines", inPlace := ["math/bits.Add64"], unfollowed := true, recurses := true, apart := false }
def ClintLinesSaid : Prop := clintLinesRow.holds Try.pinned (OpenSpec.ofChange clintLinesSpec)

/-- ITS FALSE NEIGHBOUR: 'it returns false'. Refute it at one input. -/
def clintLinesWrong : ChangeSpec := { name := "clintLines", fn := fun _ => fun
  | [d1, d2, d3, d4, d5, d6] => { results := [.lit (.bool false)], args := [d1, d2, d3, d4, d5, d6] }
  | _ => none }
def ClintLinesWrongFalsely : Prop := clintLinesRow.holds Try.pinned (OpenSpec.ofChange clintLinesWrong)

/-- 'minuterielaw05.ClintPlays': WHATEVER THE INPUT: true; the input reads as it did. -/
def clintPlaysSpec : ChangeSpec := { name := "clintPlays", fn := fun _ => fun
  | [d1, d2] => { results := [.lit (.bool true)], args := [d1, d2] }
  | _ => none }
def clintPlaysRow : OpenClaim := { program := "ytaihebdjhbnhoaa", sum := "0425a0a8520d853afc739bb70017607bf5ea87e93aad743a8884bc6d5702e316", func := "minuterie/minuterielaw05.ClintPlays", spec := "clintPlays", inPlace := ["math/bits.Add64"], unfollowed := true, recurses := true, apart := false }
def ClintPlaysSaid : Prop := clintPlaysRow.holds Try.pinned (OpenSpec.ofChange clintPlaysSpec)

/-- ITS FALSE NEIGHBOUR: 'it returns false'. Refute it at one input. -/
def clintPlaysWrong : ChangeSpec := { name := "clintPlays", fn := fun _ => fun
  | [d1, d2] => { results := [.lit (.bool false)], args := [d1, d2] }
  | _ => none }
def ClintPlaysWrongFalsely : Prop := clintPlaysRow.holds Try.pinned (OpenSpec.ofChange clintPlaysWrong)

/-- 'minuterielaw05.ClintNil': WHATEVER THE INPUT: true; the input reads as it did. -/
def clintNilSpec : ChangeSpec := { name := "clintNil", fn := fun _ => fun
  | [d1, d2, d3] => { results := [.lit (.bool true)], args := [d1, d2, d3] }
  | _ => none }
def clintNilRow : OpenClaim := { program := "ytaihebdjhbnhoaa", sum := "0425a0a8520d853afc739bb70017607bf5ea87e93aad743a8884bc6d5702e316", func := "minuterie/minuterielaw05.ClintNil", spec := "clintNil", inPlace := ["math/bits.Add64"], unfollowed := true, recurses := true, apart := false }
def ClintNilSaid : Prop := clintNilRow.holds Try.pinned (OpenSpec.ofChange clintNilSpec)

/-- ITS FALSE NEIGHBOUR: 'it returns false'. Refute it at one input. -/
def clintNilWrong : ChangeSpec := { name := "clintNil", fn := fun _ => fun
  | [d1, d2, d3] => { results := [.lit (.bool false)], args := [d1, d2, d3] }
  | _ => none }
def ClintNilWrongFalsely : Prop := clintNilRow.holds Try.pinned (OpenSpec.ofChange clintNilWrong)

/- THE SECOND FORM. 'bulk': how many values and letters a reading holds, each counted each time it is reached (what is shared counts as often as it is met; a slice's spare places count too). A statement '..UptoSaid' is the law's where the arguments, and the package variables that the reading takes, are together of bulk at most 1048576: NARROWER than '..Said'. Prove '..Said' where nothing that the law and all that it calls make is longer than what came in: it says more and counts as full. Else prove '..UptoSaid'. A law counts once. -/
mutual
def uptoBulk {H : Type} : DataW H → Nat
  | .lit (.string bytes) => bytes.length + 1
  | .lit _ => 1
  | .nil => 1
  | .ptr d => uptoBulk d + 1
  | .slice elems spare => uptoBulkAll elems + uptoBulkAll spare + 1
  | .agg parts => uptoBulkAll parts + 1
  | .iface _ d => uptoBulk d + 1
  | .map entries => uptoBulkEntries entries + 1
  | .held _ => 1
def uptoBulkAll {H : Type} : List (DataW H) → Nat
  | [] => 0
  | d :: r => uptoBulk d + uptoBulkAll r
def uptoBulkEntries {H : Type} : List (Lit × DataW H) → Nat
  | [] => 0
  | x :: r => uptoBulkEntry x + uptoBulkEntries r
def uptoBulkEntry {H : Type} : Lit × DataW H → Nat
  | (.string bytes, d) => bytes.length + uptoBulk d + 1
  | (_, d) => uptoBulk d + 1
 end
def uptoSmall : (H : Type) → List (DataW H) → Bool := fun _ ds => decide (uptoBulkAll ds ≤ 1048576)
def OpenSpec.upto (s : _root_.Go.ChangeSpec) : _root_.Go.OpenSpec := { _root_.Go.OpenSpec.ofChange s with cond := some uptoSmall }

/-- 'minuterielaw33.HistEnds', WHERE WHAT IT READS IS OF BULK AT MOST 1048576: true; the input reads as it did. -/
def histEndsUptoRow : OpenClaim := { program := "ytaihebdjhbnhoaa", sum := "0425a0a8520d853afc739bb70017607bf5ea87e93aad743a8884bc6d5702e316", func := "minuterie/minuterielaw33.HistEnds", spec := "histEnds", inPlace := ["math/bits.Add64"], apart := false, narrowed := true }
def HistEndsUptoSaid : Prop := histEndsUptoRow.holds Try.pinned (OpenSpec.upto histEndsSpec)

/-- 'minuterielaw33.HistParts', WHERE WHAT IT READS IS OF BULK AT MOST 1048576: true; the input reads as it did. -/
def histPartsUptoRow : OpenClaim := { program := "ytaihebdjhbnhoaa", sum := "0425a0a8520d853afc739bb70017607bf5ea87e93aad743a8884bc6d5702e316", func := "minuterie/minuterielaw33.HistParts", spec := "histParts", inPlace := ["math/bits.Add64"], apart := false, narrowed := true }
def HistPartsUptoSaid : Prop := histPartsUptoRow.holds Try.pinned (OpenSpec.upto histPartsSpec)

/-- 'minuterielaw33.HistAdds', WHERE WHAT IT READS IS OF BULK AT MOST 1048576: true; the input reads as it did. -/
def histAddsUptoRow : OpenClaim := { program := "ytaihebdjhbnhoaa", sum := "0425a0a8520d853afc739bb70017607bf5ea87e93aad743a8884bc6d5702e316", func := "minuterie/minuterielaw33.HistAdds", spec := "histAdds", inPlace := ["math/bits.Add64"], apart := false, narrowed := true }
def HistAddsUptoSaid : Prop := histAddsUptoRow.holds Try.pinned (OpenSpec.upto histAddsSpec)

/-- 'minuterielaw33.HistMerges', WHERE WHAT IT READS IS OF BULK AT MOST 1048576: true; the input reads as it did. -/
def histMergesUptoRow : OpenClaim := { program := "ytaihebdjhbnhoaa", sum := "0425a0a8520d853afc739bb70017607bf5ea87e93aad743a8884bc6d5702e316", func := "minuterie/minuterielaw33.HistMerges", spec := "histMerges", inPlace := ["math/bits.Add64"], apart := false, narrowed := true }
def HistMergesUptoSaid : Prop := histMergesUptoRow.holds Try.pinned (OpenSpec.upto histMergesSpec)

/-- 'minuterielaw33.HistNil', WHERE WHAT IT READS IS OF BULK AT MOST 1048576: true; the input reads as it did. -/
def histNilUptoRow : OpenClaim := { program := "ytaihebdjhbnhoaa", sum := "0425a0a8520d853afc739bb70017607bf5ea87e93aad743a8884bc6d5702e316", func := "minuterie/minuterielaw33.HistNil", spec := "histNil", inPlace := ["math/bits.Add64"], apart := false, narrowed := true }
def HistNilUptoSaid : Prop := histNilUptoRow.holds Try.pinned (OpenSpec.upto histNilSpec)

/-- 'minuterielaw05.ClintLines', WHERE WHAT IT READS IS OF BULK AT MOST 1048576: true; the input reads as it did. -/
def clintLinesUptoRow : OpenClaim := { program := "ytaihebdjhbnhoaa", sum := "0425a0a8520d853afc739bb70017607bf5ea87e93aad743a8884bc6d5702e316", func := "minuterie/minuterielaw05.ClintLines", spec := "clintLines", inPlace := ["math/bits.Add64"], unfollowed := true, recurses := true, apart := false, narrowed := true }
def ClintLinesUptoSaid : Prop := clintLinesUptoRow.holds Try.pinned (OpenSpec.upto clintLinesSpec)

/-- 'minuterielaw05.ClintPlays', WHERE WHAT IT READS IS OF BULK AT MOST 1048576: true; the input reads as it did. -/
def clintPlaysUptoRow : OpenClaim := { program := "ytaihebdjhbnhoaa", sum := "0425a0a8520d853afc739bb70017607bf5ea87e93aad743a8884bc6d5702e316", func := "minuterie/minuterielaw05.ClintPlays", spec := "clintPlays", inPlace := ["math/bits.Add64"], unfollowed := true, recurses := true, apart := false, narrowed := true }
def ClintPlaysUptoSaid : Prop := clintPlaysUptoRow.holds Try.pinned (OpenSpec.upto clintPlaysSpec)

/-- 'minuterielaw05.ClintNil', WHERE WHAT IT READS IS OF BULK AT MOST 1048576: true; the input reads as it did. -/
def clintNilUptoRow : OpenClaim := { program := "ytaihebdjhbnhoaa", sum := "0425a0a8520d853afc739bb70017607bf5ea87e93aad743a8884bc6d5702e316", func := "minuterie/minuterielaw05.ClintNil", spec := "clintNil", inPlace := ["math/bits.Add64"], unfollowed := true, recurses := true, apart := false, narrowed := true }
def ClintNilUptoSaid : Prop := clintNilUptoRow.holds Try.pinned (OpenSpec.upto clintNilSpec)

end Rows
end Go.Proofs.Ytaihebdjhbnhoaa
