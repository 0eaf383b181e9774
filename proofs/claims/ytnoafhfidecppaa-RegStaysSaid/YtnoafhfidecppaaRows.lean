/-
  No cell of these rows narrows 'for every input' (looked for: loops, veiled, ifaces, maps, wideKeys, modest, calm, conditions, laid).
  DERIVED. THE GIVEN ROWS OF THIS SEAT. 5 by the template 'for every input the law returns true; each argument reads behind the call as it read before'; 0 by the template 'total and deterministic' (their statements: YtnoafhfidecppaaTotals.lean).
  GIVEN WITH THE SEED: the statements are not yours to turn. If you find one false, say at which input.
  Laid BY PROGRAM, IN A SANDBOX (cutbox-rows.mjs): the forced cells as the released guide's own fill.sh prints them over the translation b61b8c7539699c7a… (all of the seat's roots in one cut). By AI agents, Wed Nov 11 2026. No macro, syntax, notation, axiom, sorry.
-/
import Derived.Test.YtnoafhfidecppaaChecked
import GoSem.Claim
import GoSem.ClaimJoined
import GoSem.ClaimMapViews
import Derived.JoinedTies
import Derived.KernelRfl
namespace Go.Proofs.Ytnoafhfidecppaa
/- THE CELL 'sum', in the pinned program and in every row, IS THE sha256 OF THE DUMP (.gsa) THAT YtnoafhfidecppaaProg.lean LOADS. Nothing in Lean hashes anything: it is a label: what it is worth is what the hold of that sum in a sandbox is worth. -/
noncomputable def Try.pinned : Pinned := { name := "ytnoafhfidecppaa", sum := "b61b8c7539699c7a5a9546906f2c46a75264bf5b140fe546eef2683959230c44", checked := Try.checked }
namespace Rows
def none {H : Type} : Left H := { results := [], args := [] }

/-- 'minuterielaw18.PlaceSpans': WHATEVER THE INPUT: true; the input reads as it did. -/
def placeSpansSpec : ChangeSpec := { name := "placeSpans", fn := fun _ => fun
  | [d1, d2] => { results := [.lit (.bool true)], args := [d1, d2] }
  | _ => none }
def placeSpansRow : OpenClaim := { program := "ytnoafhfidecppaa", sum := "b61b8c7539699c7a5a9546906f2c46a75264bf5b140fe546eef2683959230c44", func := "minuterie/minuterielaw18.PlaceSpans", spec := "placeSpans", unfollowed := true, recurses := true, plainKeys := false, apart := false }
def PlaceSpansSaid : Prop := placeSpansRow.holds Try.pinned (OpenSpec.ofChange placeSpansSpec)

/-- ITS FALSE NEIGHBOUR: 'it returns false'. Refute it at one input. -/
def placeSpansWrong : ChangeSpec := { name := "placeSpans", fn := fun _ => fun
  | [d1, d2] => { results := [.lit (.bool false)], args := [d1, d2] }
  | _ => none }
def PlaceSpansWrongFalsely : Prop := placeSpansRow.holds Try.pinned (OpenSpec.ofChange placeSpansWrong)

/-- 'minuterielaw18.PlaceOf': WHATEVER THE INPUT: true; the input reads as it did. -/
def placeOfSpec : ChangeSpec := { name := "placeOf", fn := fun _ => fun
  | [d1, d2, d3, d4] => { results := [.lit (.bool true)], args := [d1, d2, d3, d4] }
  | _ => none }
def placeOfRow : OpenClaim := { program := "ytnoafhfidecppaa", sum := "b61b8c7539699c7a5a9546906f2c46a75264bf5b140fe546eef2683959230c44", func := "minuterie/minuterielaw18.PlaceOf", spec := "placeOf", unfollowed := true, recurses := true, plainKeys := false, apart := false }
def PlaceOfSaid : Prop := placeOfRow.holds Try.pinned (OpenSpec.ofChange placeOfSpec)

/-- ITS FALSE NEIGHBOUR: 'it returns false'. Refute it at one input. -/
def placeOfWrong : ChangeSpec := { name := "placeOf", fn := fun _ => fun
  | [d1, d2, d3, d4] => { results := [.lit (.bool false)], args := [d1, d2, d3, d4] }
  | _ => none }
def PlaceOfWrongFalsely : Prop := placeOfRow.holds Try.pinned (OpenSpec.ofChange placeOfWrong)

/-- 'minuterielaw18.PlaceOrder': WHATEVER THE INPUT: true; the input reads as it did. -/
def placeOrderSpec : ChangeSpec := { name := "placeOrder", fn := fun _ => fun
  | [d1, d2, d3] => { results := [.lit (.bool true)], args := [d1, d2, d3] }
  | _ => none }
def placeOrderRow : OpenClaim := { program := "ytnoafhfidecppaa", sum := "b61b8c7539699c7a5a9546906f2c46a75264bf5b140fe546eef2683959230c44", func := "minuterie/minuterielaw18.PlaceOrder", spec := "placeOrder", unfollowed := true, recurses := true, plainKeys := false, apart := false }
def PlaceOrderSaid : Prop := placeOrderRow.holds Try.pinned (OpenSpec.ofChange placeOrderSpec)

/-- ITS FALSE NEIGHBOUR: 'it returns false'. Refute it at one input. -/
def placeOrderWrong : ChangeSpec := { name := "placeOrder", fn := fun _ => fun
  | [d1, d2, d3] => { results := [.lit (.bool false)], args := [d1, d2, d3] }
  | _ => none }
def PlaceOrderWrongFalsely : Prop := placeOrderRow.holds Try.pinned (OpenSpec.ofChange placeOrderWrong)

/-- 'minuterielaw02.RegStays': WHATEVER THE INPUT: true; the input reads as it did. -/
def regStaysSpec : ChangeSpec := { name := "regStays", fn := fun _ => fun
  | [d1, d2] => { results := [.lit (.bool true)], args := [d1, d2] }
  | _ => none }
def regStaysRow : OpenClaim := { program := "ytnoafhfidecppaa", sum := "b61b8c7539699c7a5a9546906f2c46a75264bf5b140fe546eef2683959230c44", func := "minuterie/minuterielaw02.RegStays", spec := "regStays", plainKeys := false, apart := false }
def RegStaysSaid : Prop := regStaysRow.holds Try.pinned (OpenSpec.ofChange regStaysSpec)

/-- ITS FALSE NEIGHBOUR: 'it returns false'. Refute it at one input. -/
def regStaysWrong : ChangeSpec := { name := "regStays", fn := fun _ => fun
  | [d1, d2] => { results := [.lit (.bool false)], args := [d1, d2] }
  | _ => none }
def RegStaysWrongFalsely : Prop := regStaysRow.holds Try.pinned (OpenSpec.ofChange regStaysWrong)

/-- 'minuterielaw02.RegTurns': WHATEVER THE INPUT: true; the input reads as it did. -/
def regTurnsSpec : ChangeSpec := { name := "regTurns", fn := fun _ => fun
  | [d1, d2, d3] => { results := [.lit (.bool true)], args := [d1, d2, d3] }
  | _ => none }
def regTurnsRow : OpenClaim := { program := "ytnoafhfidecppaa", sum := "b61b8c7539699c7a5a9546906f2c46a75264bf5b140fe546eef2683959230c44", func := "minuterie/minuterielaw02.RegTurns", spec := "regTurns", plainKeys := false, apart := false }
def RegTurnsSaid : Prop := regTurnsRow.holds Try.pinned (OpenSpec.ofChange regTurnsSpec)

/-- ITS FALSE NEIGHBOUR: 'it returns false'. Refute it at one input. -/
def regTurnsWrong : ChangeSpec := { name := "regTurns", fn := fun _ => fun
  | [d1, d2, d3] => { results := [.lit (.bool false)], args := [d1, d2, d3] }
  | _ => none }
def RegTurnsWrongFalsely : Prop := regTurnsRow.holds Try.pinned (OpenSpec.ofChange regTurnsWrong)

/- THE SECOND FORM. 'bulk': how many values and letters a reading holds, each counted each time it is reached (what is shared counts as often as it is met; a slice's spare places count too). A statement '..UptoSaid' is the law's where the arguments, and the package variables that the reading takes, are together of bulk at most 1048576: NARROWER than '..Said'. Prove '..Said' where nothing that the law and all that it calls make is longer than what came in: it says more and counts as full. Else prove '..UptoSaid'. A law counts once. -/
mutual
def uptoBulk {H : Type} : DataW H → Nat
  | .lit (.string bytes) => bytes.length + 1
  | .lit _ => 1
  | .nil => 1
  | .ptr d => uptoBulk d + 1
  | .slice elems spare => uptoBulkAll elems + uptoBulkAll spare + 1
  | .agg parts => uptoBulkAll parts + 1
  | .iface _ d => uptoBulk d + 1
  | .map entries => uptoBulkEntries entries + 1
  | .held _ => 1
def uptoBulkAll {H : Type} : List (DataW H) → Nat
  | [] => 0
  | d :: r => uptoBulk d + uptoBulkAll r
def uptoBulkEntries {H : Type} : List (Lit × DataW H) → Nat
  | [] => 0
  | x :: r => uptoBulkEntry x + uptoBulkEntries r
def uptoBulkEntry {H : Type} : Lit × DataW H → Nat
  | (.string bytes, d) => bytes.length + uptoBulk d + 1
  | (_, d) => uptoBulk d + 1
 end
def uptoSmall : (H : Type) → List (DataW H) → Bool := fun _ ds => decide (uptoBulkAll ds ≤ 1048576)
def OpenSpec.upto (s : _root_.Go.ChangeSpec) : _root_.Go.OpenSpec := { _root_.Go.OpenSpec.ofChange s with cond := some uptoSmall }

/-- 'minuterielaw18.PlaceSpans', WHERE WHAT IT READS IS OF BULK AT MOST 1048576: true; the input reads as it did. -/
def placeSpansUptoRow : OpenClaim := { program := "ytnoafhfidecppaa", sum := "b61b8c7539699c7a5a9546906f2c46a75264bf5b140fe546eef2683959230c44", func := "minuterie/minuterielaw18.PlaceSpans", spec := "placeSpans", unfollowed := true, recurses := true, plainKeys := false, apart := false, narrowed := true }
def PlaceSpansUptoSaid : Prop := placeSpansUptoRow.holds Try.pinned (OpenSpec.upto placeSpansSpec)

/-- 'minuterielaw18.PlaceOf', WHERE WHAT IT READS IS OF BULK AT MOST 1048576: true; the input reads as it did. -/
def placeOfUptoRow : OpenClaim := { program := "ytnoafhfidecppaa", sum := "b61b8c7539699c7a5a9546906f2c46a75264bf5b140fe546eef2683959230c44", func := "minuterie/minuterielaw18.PlaceOf", spec := "placeOf", unfollowed := true, recurses := true, plainKeys := false, apart := false, narrowed := true }
def PlaceOfUptoSaid : Prop := placeOfUptoRow.holds Try.pinned (OpenSpec.upto placeOfSpec)

/-- 'minuterielaw18.PlaceOrder', WHERE WHAT IT READS IS OF BULK AT MOST 1048576: true; the input reads as it did. -/
def placeOrderUptoRow : OpenClaim := { program := "ytnoafhfidecppaa", sum := "b61b8c7539699c7a5a9546906f2c46a75264bf5b140fe546eef2683959230c44", func := "minuterie/minuterielaw18.PlaceOrder", spec := "placeOrder", unfollowed := true, recurses := true, plainKeys := false, apart := false, narrowed := true }
def PlaceOrderUptoSaid : Prop := placeOrderUptoRow.holds Try.pinned (OpenSpec.upto placeOrderSpec)

/-- 'minuterielaw02.RegStays', WHERE WHAT IT READS IS OF BULK AT MOST 1048576: true; the input reads as it did. -/
def regStaysUptoRow : OpenClaim := { program := "ytnoafhfidecppaa", sum := "b61b8c7539699c7a5a9546906f2c46a75264bf5b140fe546eef2683959230c44", func := "minuterie/minuterielaw02.RegStays", spec := "regStays", plainKeys := false, apart := false, narrowed := true }
def RegStaysUptoSaid : Prop := regStaysUptoRow.holds Try.pinned (OpenSpec.upto regStaysSpec)

/-- 'minuterielaw02.RegTurns', WHERE WHAT IT READS IS OF BULK AT MOST 1048576: true; the input reads as it did. -/
def regTurnsUptoRow : OpenClaim := { program := "ytnoafhfidecppaa", sum := "b61b8c7539699c7a5a9546906f2c46a75264bf5b140fe546eef2683959230c44", func := "minuterie/minuterielaw02.RegTurns", spec := "regTurns", plainKeys := false, apart := false, narrowed := true }
def RegTurnsUptoSaid : Prop := regTurnsUptoRow.holds Try.pinned (OpenSpec.upto regTurnsSpec)

end Rows
end Go.Proofs.Ytnoafhfidecppaa
