/-
  No cell of these rows narrows 'for every input' (looked for: loops, veiled, ifaces, maps, wideKeys, modest, calm, conditions, laid).
  DERIVED. THE GIVEN ROWS OF THIS SEAT. 8 by the template 'for every input the law returns true; each argument reads behind the call as it read before'; 0 by the template 'total and deterministic' (their statements: YtdhgcmodlikckaaTotals.lean).
  GIVEN WITH THE SEED: the statements are not yours to turn. If you find one false, say at which input.
  Laid BY PROGRAM, IN A SANDBOX (cutbox-rows.mjs): the forced cells as the released guide's own fill.sh prints them over the translation 8df597ea18169499… (all of the seat's roots in one cut). By AI agents, Wed Nov 11 2026. No macro, syntax, notation, axiom, sorry.
-/
import Derived.Test.YtdhgcmodlikckaaChecked
import GoSem.Claim
import GoSem.ClaimJoined
import GoSem.ClaimMapViews
import Derived.JoinedTies
import Derived.KernelRfl
namespace Go.Proofs.Ytdhgcmodlikckaa
/- THE CELL 'sum', in the pinned program and in every row, IS THE sha256 OF THE DUMP (.gsa) THAT YtdhgcmodlikckaaProg.lean LOADS. Nothing in Lean hashes anything: it is a label: what it is worth is what the hold of that sum in a sandbox is worth. -/
noncomputable def Try.pinned : Pinned := { name := "ytdhgcmodlikckaa", sum := "8df597ea18169499d6e0cdcc699349cfc38b5a6769d764d7cb64a73ceed43293", checked := Try.checked }
namespace Rows
def none {H : Type} : Left H := { results := [], args := [] }

/-- 'minuterielaw10.RtcSets': WHATEVER THE INPUT: true; the input reads as it did. -/
def rtcSetsSpec : ChangeSpec := { name := "rtcSets", fn := fun _ => fun
  | [d1, d2, d3, d4, d5] => { results := [.lit (.bool true)], args := [d1, d2, d3, d4, d5] }
  | _ => none }
def rtcSetsRow : OpenClaim := { program := "ytdhgcmodlikckaa", sum := "8df597ea18169499d6e0cdcc699349cfc38b5a6769d764d7cb64a73ceed43293", func := "minuterie/minuterielaw10.RtcSets", spec := "rtcSets", inPlace := ["math/bits.Add64", "math/bits.Sub64"], unfollowed := true, recurses := true, apart := false }
def RtcSetsSaid : Prop := rtcSetsRow.holds Try.pinned (OpenSpec.ofChange rtcSetsSpec)

/-- ITS FALSE NEIGHBOUR: 'it returns false'. Refute it at one input. -/
def rtcSetsWrong : ChangeSpec := { name := "rtcSets", fn := fun _ => fun
  | [d1, d2, d3, d4, d5] => { results := [.lit (.bool false)], args := [d1, d2, d3, d4, d5] }
  | _ => none }
def RtcSetsWrongFalsely : Prop := rtcSetsRow.holds Try.pinned (OpenSpec.ofChange rtcSetsWrong)

/-- 'minuterielaw10.RtcPlays': WHATEVER THE INPUT: true; the input reads as it did. -/
def rtcPlaysSpec : ChangeSpec := { name := "rtcPlays", fn := fun _ => fun
  | [d1, d2] => { results := [.lit (.bool true)], args := [d1, d2] }
  | _ => none }
def rtcPlaysRow : OpenClaim := { program := "ytdhgcmodlikckaa", sum := "8df597ea18169499d6e0cdcc699349cfc38b5a6769d764d7cb64a73ceed43293", func := "minuterie/minuterielaw10.RtcPlays", spec := "rtcPlays", inPlace := ["math/bits.Sub64", "math/bits.Add64"], unfollowed := true, recurses := true, apart := false }
def RtcPlaysSaid : Prop := rtcPlaysRow.holds Try.pinned (OpenSpec.ofChange rtcPlaysSpec)

/-- ITS FALSE NEIGHBOUR: 'it returns false'. Refute it at one input. -/
def rtcPlaysWrong : ChangeSpec := { name := "rtcPlays", fn := fun _ => fun
  | [d1, d2] => { results := [.lit (.bool false)], args := [d1, d2] }
  | _ => none }
def RtcPlaysWrongFalsely : Prop := rtcPlaysRow.holds Try.pinned (OpenSpec.ofChange rtcPlaysWrong)

/-- 'minuterielaw10.RtcLeft': WHATEVER THE INPUT: true; the input reads as it did. -/
def rtcLeftSpec : ChangeSpec := { name := "rtcLeft", fn := fun _ => fun
  | [d1, d2, d3, d4] => { results := [.lit (.bool true)], args := [d1, d2, d3, d4] }
  | _ => none }
def rtcLeftRow : OpenClaim := { program := "ytdhgcmodlikckaa", sum := "8df597ea18169499d6e0cdcc699349cfc38b5a6769d764d7cb64a73ceed43293", func := "minuterie/minuterielaw10.RtcLeft", spec := "rtcLeft", inPlace := ["math/bits.Add64", "math/bits.Sub64"], unfollowed := true, recurses := true, apart := false }
def RtcLeftSaid : Prop := rtcLeftRow.holds Try.pinned (OpenSpec.ofChange rtcLeftSpec)

/-- ITS FALSE NEIGHBOUR: 'it returns false'. Refute it at one input. -/
def rtcLeftWrong : ChangeSpec := { name := "rtcLeft", fn := fun _ => fun
  | [d1, d2, d3, d4] => { results := [.lit (.bool false)], args := [d1, d2, d3, d4] }
  | _ => none }
def RtcLeftWrongFalsely : Prop := rtcLeftRow.holds Try.pinned (OpenSpec.ofChange rtcLeftWrong)

/-- 'minuterielaw10.RtcNil': WHATEVER THE INPUT: true; the input reads as it did. -/
def rtcNilSpec : ChangeSpec := { name := "rtcNil", fn := fun _ => fun
  | [d1, d2, d3] => { results := [.lit (.bool true)], args := [d1, d2, d3] }
  | _ => none }
def rtcNilRow : OpenClaim := { program := "ytdhgcmodlikckaa", sum := "8df597ea18169499d6e0cdcc699349cfc38b5a6769d764d7cb64a73ceed43293", func := "minuterie/minuterielaw10.RtcNil", spec := "rtcNil", inPlace := ["math/bits.Add64", "math/bits.Sub64"], unfollowed := true, recurses := true, apart := false }
def RtcNilSaid : Prop := rtcNilRow.holds Try.pinned (OpenSpec.ofChange rtcNilSpec)

/-- ITS FALSE NEIGHBOUR: 'it returns false'. Refute it at one input. -/
def rtcNilWrong : ChangeSpec := { name := "rtcNil", fn := fun _ => fun
  | [d1, d2, d3] => { results := [.lit (.bool false)], args := [d1, d2, d3] }
  | _ => none }
def RtcNilWrongFalsely : Prop := rtcNilRow.holds Try.pinned (OpenSpec.ofChange rtcNilWrong)

/-- 'minuterielaw32.SlackPlans': WHATEVER THE INPUT: true; the input reads as it did. -/
def slackPlansSpec : ChangeSpec := { name := "slackPlans", fn := fun _ => fun
  | [d] => { results := [.lit (.bool true)], args := [d] }
  | _ => none }
def slackPlansRow : OpenClaim := { program := "ytdhgcmodlikckaa", sum := "8df597ea18169499d6e0cdcc699349cfc38b5a6769d764d7cb64a73ceed43293", func := "minuterie/minuterielaw32.SlackPlans", spec := "slackPlans", unfollowed := true, recurses := true, apart := false }
def SlackPlansSaid : Prop := slackPlansRow.holds Try.pinned (OpenSpec.ofChange slackPlansSpec)

/-- ITS FALSE NEIGHBOUR: 'it returns false'. Refute it at one input. -/
def slackPlansWrong : ChangeSpec := { name := "slackPlans", fn := fun _ => fun
  | [d] => { results := [.lit (.bool false)], args := [d] }
  | _ => none }
def SlackPlansWrongFalsely : Prop := slackPlansRow.holds Try.pinned (OpenSpec.ofChange slackPlansWrong)

/-- 'minuterielaw32.SlackMore': WHATEVER THE INPUT: true; the input reads as it did. -/
def slackMoreSpec : ChangeSpec := { name := "slackMore", fn := fun _ => fun
  | [d1, d2, d3] => { results := [.lit (.bool true)], args := [d1, d2, d3] }
  | _ => none }
def slackMoreRow : OpenClaim := { program := "ytdhgcmodlikckaa", sum := "8df597ea18169499d6e0cdcc699349cfc38b5a6769d764d7cb64a73ceed43293", func := "minuterie/minuterielaw32.SlackMore", spec := "slackMore", unfollowed := true, recurses := true, apart := false }
def SlackMoreSaid : Prop := slackMoreRow.holds Try.pinned (OpenSpec.ofChange slackMoreSpec)

/-- ITS FALSE NEIGHBOUR: 'it returns false'. Refute it at one input. -/
def slackMoreWrong : ChangeSpec := { name := "slackMore", fn := fun _ => fun
  | [d1, d2, d3] => { results := [.lit (.bool false)], args := [d1, d2, d3] }
  | _ => none }
def SlackMoreWrongFalsely : Prop := slackMoreRow.holds Try.pinned (OpenSpec.ofChange slackMoreWrong)

/-- 'minuterielaw32.SlackLeast': WHATEVER THE INPUT: true; the input reads as it did. -/
def slackLeastSpec : ChangeSpec := { name := "slackLeast", fn := fun _ => fun
  | [d] => { results := [.lit (.bool true)], args := [d] }
  | _ => none }
def slackLeastRow : OpenClaim := { program := "ytdhgcmodlikckaa", sum := "8df597ea18169499d6e0cdcc699349cfc38b5a6769d764d7cb64a73ceed43293", func := "minuterie/minuterielaw32.SlackLeast", spec := "slackLeast", unfollowed := true, recurses := true, apart := false }
def SlackLeastSaid : Prop := slackLeastRow.holds Try.pinned (OpenSpec.ofChange slackLeastSpec)

/-- ITS FALSE NEIGHBOUR: 'it returns false'. Refute it at one input. -/
def slackLeastWrong : ChangeSpec := { name := "slackLeast", fn := fun _ => fun
  | [d] => { results := [.lit (.bool false)], args := [d] }
  | _ => none }
def SlackLeastWrongFalsely : Prop := slackLeastRow.holds Try.pinned (OpenSpec.ofChange slackLeastWrong)

/-- 'minuterielaw32.SlackOf': WHATEVER THE INPUT: true; the input reads as it did. -/
def slackOfSpec : ChangeSpec := { name := "slackOf", fn := fun _ => fun
  | [d1, d2, d3, d4] => { results := [.lit (.bool true)], args := [d1, d2, d3, d4] }
  | _ => none }
def slackOfRow : OpenClaim := { program := "ytdhgcmodlikckaa", sum := "8df597ea18169499d6e0cdcc699349cfc38b5a6769d764d7cb64a73ceed43293", func := "minuterie/minuterielaw32.SlackOf", spec := "slackOf", inPlace := ["math/bits.Add64"], unfollowed := true, recurses := true, apart := false }
def SlackOfSaid : Prop := slackOfRow.holds Try.pinned (OpenSpec.ofChange slackOfSpec)

/-- ITS FALSE NEIGHBOUR: 'it returns false'. Refute it at one input. -/
def slackOfWrong : ChangeSpec := { name := "slackOf", fn := fun _ => fun
  | [d1, d2, d3, d4] => { results := [.lit (.bool false)], args := [d1, d2, d3, d4] }
  | _ => none }
def SlackOfWrongFalsely : Prop := slackOfRow.holds Try.pinned (OpenSpec.ofChange slackOfWrong)

/- THE SECOND FORM. 'bulk': how many values and letters a reading holds, each counted each time it is reached (what is shared counts as often as it is met; a slice's spare places count too). A statement '..UptoSaid' is the law's where the arguments, and the package variables that the reading takes, are together of bulk at most 1048576: NARROWER than '..Said'. Prove '..Said' where nothing that the law and all that it calls make is longer than what came in: it says more and counts as full. Else prove '..UptoSaid'. A law counts once. -/
mutual
def uptoBulk {H : Type} : DataW H → Nat
  | .lit (.string bytes) => bytes.length + 1
  | .lit _ => 1
  | .nil => 1
  | .ptr d => uptoBulk d + 1
  | .slice elems spare => uptoBulkAll elems + uptoBulkAll spare + 1
  | .agg parts => uptoBulkAll parts + 1
  | .iface _ d => uptoBulk d + 1
  | .map entries => uptoBulkEntries entries + 1
  | .held _ => 1
def uptoBulkAll {H : Type} : List (DataW H) → Nat
  | [] => 0
  | d :: r => uptoBulk d + uptoBulkAll r
def uptoBulkEntries {H : Type} : List (Lit × DataW H) → Nat
  | [] => 0
  | x :: r => uptoBulkEntry x + uptoBulkEntries r
def uptoBulkEntry {H : Type} : Lit × DataW H → Nat
  | (.string bytes, d) => bytes.length + uptoBulk d + 1
  | (_, d) => uptoBulk d + 1
 end
def uptoSmall : (H : Type) → List (DataW H) → Bool := fun _ ds => decide (uptoBulkAll ds ≤ 1048576)
def OpenSpec.upto (s : _root_.Go.ChangeSpec) : _root_.Go.OpenSpec := { _root_.Go.OpenSpec.ofChange s with cond := some uptoSmall }

/-- 'minuterielaw10.RtcSets', WHERE WHAT IT READS IS OF BULK AT MOST 1048576: true; the input reads as it did. -/
def rtcSetsUptoRow : OpenClaim := { program := "ytdhgcmodlikckaa", sum := "8df597ea18169499d6e0cdcc699349cfc38b5a6769d764d7cb64a73ceed43293", func := "minuterie/minuterielaw10.RtcSets", spec := "rtcSets", inPlace := ["math/bits.Add64", "math/bits.Sub64"], unfollowed := true, recurses := true, apart := false, narrowed := true }
def RtcSetsUptoSaid : Prop := rtcSetsUptoRow.holds Try.pinned (OpenSpec.upto rtcSetsSpec)

/-- 'minuterielaw10.RtcPlays', WHERE WHAT IT READS IS OF BULK AT MOST 1048576: true; the input reads as it did. -/
def rtcPlaysUptoRow : OpenClaim := { program := "ytdhgcmodlikckaa", sum := "8df597ea18169499d6e0cdcc699349cfc38b5a6769d764d7cb64a73ceed43293", func := "minuterie/minuterielaw10.RtcPlays", spec := "rtcPlays", inPlace := ["math/bits.Sub64", "math/bits.Add64"], unfollowed := true, recurses := true, apart := false, narrowed := true }
def RtcPlaysUptoSaid : Prop := rtcPlaysUptoRow.holds Try.pinned (OpenSpec.upto rtcPlaysSpec)

/-- 'minuterielaw10.RtcLeft', WHERE WHAT IT READS IS OF BULK AT MOST 1048576: true; the input reads as it did. -/
def rtcLeftUptoRow : OpenClaim := { program := "ytdhgcmodlikckaa", sum := "8df597ea18169499d6e0cdcc699349cfc38b5a6769d764d7cb64a73ceed43293", func := "minuterie/minuterielaw10.RtcLeft", spec := "rtcLeft", inPlace := ["math/bits.Add64", "math/bits.Sub64"], unfollowed := true, recurses := true, apart := false, narrowed := true }
def RtcLeftUptoSaid : Prop := rtcLeftUptoRow.holds Try.pinned (OpenSpec.upto rtcLeftSpec)

/-- 'minuterielaw10.RtcNil', WHERE WHAT IT READS IS OF BULK AT MOST 1048576: true; the input reads as it did. -/
def rtcNilUptoRow : OpenClaim := { program := "ytdhgcmodlikckaa", sum := "8df597ea18169499d6e0cdcc699349cfc38b5a6769d764d7cb64a73ceed43293", func := "minuterie/minuterielaw10.RtcNil", spec := "rtcNil", inPlace := ["math/bits.Add64", "math/bits.Sub64"], unfollowed := true, recurses := true, apart := false, narrowed := true }
def RtcNilUptoSaid : Prop := rtcNilUptoRow.holds Try.pinned (OpenSpec.upto rtcNilSpec)

/-- 'minuterielaw32.SlackPlans', WHERE WHAT IT READS IS OF BULK AT MOST 1048576: true; the input reads as it did. -/
def slackPlansUptoRow : OpenClaim := { program := "ytdhgcmodlikckaa", sum := "8df597ea18169499d6e0cdcc699349cfc38b5a6769d764d7cb64a73ceed43293", func := "minuterie/minuterielaw32.SlackPlans", spec := "slackPlans", unfollowed := true, recurses := true, apart := false, narrowed := true }
def SlackPlansUptoSaid : Prop := slackPlansUptoRow.holds Try.pinned (OpenSpec.upto slackPlansSpec)

/-- 'minuterielaw32.SlackMore', WHERE WHAT IT READS IS OF BULK AT MOST 1048576: true; the input reads as it did. -/
def slackMoreUptoRow : OpenClaim := { program := "ytdhgcmodlikckaa", sum := "8df597ea18169499d6e0cdcc699349cfc38b5a6769d764d7cb64a73ceed43293", func := "minuterie/minuterielaw32.SlackMore", spec := "slackMore", unfollowed := true, recurses := true, apart := false, narrowed := true }
def SlackMoreUptoSaid : Prop := slackMoreUptoRow.holds Try.pinned (OpenSpec.upto slackMoreSpec)

/-- 'minuterielaw32.SlackLeast', WHERE WHAT IT READS IS OF BULK AT MOST 1048576: true; the input reads as it did. -/
def slackLeastUptoRow : OpenClaim := { program := "ytdhgcmodlikckaa", sum := "8df597ea18169499d6e0cdcc699349cfc38b5a6769d764d7cb64a73ceed43293", func := "minuterie/minuterielaw32.SlackLeast", spec := "slackLeast", unfollowed := true, recurses := true, apart := false, narrowed := true }
def SlackLeastUptoSaid : Prop := slackLeastUptoRow.holds Try.pinned (OpenSpec.upto slackLeastSpec)

/-- 'minuterielaw32.SlackOf', WHERE WHAT IT READS IS OF BULK AT MOST 1048576: true; the input reads as it did. -/
def slackOfUptoRow : OpenClaim := { program := "ytdhgcmodlikckaa", sum := "8df597ea18169499d6e0cdcc699349cfc38b5a6769d764d7cb64a73ceed43293", func := "minuterie/minuterielaw32.SlackOf", spec := "slackOf", inPlace := ["math/bits.Add64"], unfollowed := true, recurses := true, apart := false, narrowed := true }
def SlackOfUptoSaid : Prop := slackOfUptoRow.holds Try.pinned (OpenSpec.upto slackOfSpec)

end Rows
end Go.Proofs.Ytdhgcmodlikckaa
