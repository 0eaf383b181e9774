/-
  No cell of these rows narrows 'for every input' (looked for: loops, veiled, ifaces, maps, wideKeys, modest, calm, conditions, laid).
  DERIVED. THE GIVEN ROWS OF THIS SEAT. 7 by the template 'for every input the law returns true; each argument reads behind the call as it read before'; 0 by the template 'total and deterministic' (their statements: YtgkklgebgabncaaTotals.lean).
  GIVEN WITH THE SEED: the statements are not yours to turn. If you find one false, say at which input.
  Laid BY PROGRAM, IN A SANDBOX (cutbox-rows.mjs): the forced cells as the released guide's own fill.sh prints them over the translation 5383f3bc040afce5… (all of the seat's roots in one cut). By AI agents, Wed Nov 11 2026. No macro, syntax, notation, axiom, sorry.
-/
import Derived.Test.YtgkklgebgabncaaChecked
import GoSem.Claim
import GoSem.ClaimJoined
import GoSem.ClaimMapViews
import Derived.JoinedTies
import Derived.KernelRfl
namespace Go.Proofs.Ytgkklgebgabncaa
/- THE CELL 'sum', in the pinned program and in every row, IS THE sha256 OF THE DUMP (.gsa) THAT YtgkklgebgabncaaProg.lean LOADS. Nothing in Lean hashes anything: it is a label: what it is worth is what the hold of that sum in a sandbox is worth. -/
noncomputable def Try.pinned : Pinned := { name := "ytgkklgebgabncaa", sum := "5383f3bc040afce51aa91e1343b53e6d58dd511297b4edf6d899ec7da3a320f2", checked := Try.checked }
namespace Rows
def none {H : Type} : Left H := { results := [], args := [] }

/-- 'minuterielaw02.RegPlays': WHATEVER THE INPUT: true; the input reads as it did. -/
def regPlaysSpec : ChangeSpec := { name := "regPlays", fn := fun _ => fun
  | [d] => { results := [.lit (.bool true)], args := [d] }
  | _ => none }
def regPlaysRow : OpenClaim := { program := "ytgkklgebgabncaa", sum := "5383f3bc040afce51aa91e1343b53e6d58dd511297b4edf6d899ec7da3a320f2", func := "minuterie/minuterielaw02.RegPlays", spec := "regPlays", inPlace := ["maps.clone"], unfollowed := true, recurses := true, plainKeys := false, apart := false }
def RegPlaysSaid : Prop := regPlaysRow.holds Try.pinned (OpenSpec.ofChange regPlaysSpec)

/-- ITS FALSE NEIGHBOUR: 'it returns false'. Refute it at one input. -/
def regPlaysWrong : ChangeSpec := { name := "regPlays", fn := fun _ => fun
  | [d] => { results := [.lit (.bool false)], args := [d] }
  | _ => none }
def RegPlaysWrongFalsely : Prop := regPlaysRow.holds Try.pinned (OpenSpec.ofChange regPlaysWrong)

/-- 'minuterielaw02.RegNil': WHATEVER THE INPUT: true; the input reads as it did. -/
def regNilSpec : ChangeSpec := { name := "regNil", fn := fun _ => fun
  | [d1, d2] => { results := [.lit (.bool true)], args := [d1, d2] }
  | _ => none }
def regNilRow : OpenClaim := { program := "ytgkklgebgabncaa", sum := "5383f3bc040afce51aa91e1343b53e6d58dd511297b4edf6d899ec7da3a320f2", func := "minuterie/minuterielaw02.RegNil", spec := "regNil", inPlace := ["maps.clone"], unfollowed := true, recurses := true, plainKeys := false, apart := false }
def RegNilSaid : Prop := regNilRow.holds Try.pinned (OpenSpec.ofChange regNilSpec)

/-- ITS FALSE NEIGHBOUR: 'it returns false'. Refute it at one input. -/
def regNilWrong : ChangeSpec := { name := "regNil", fn := fun _ => fun
  | [d1, d2] => { results := [.lit (.bool false)], args := [d1, d2] }
  | _ => none }
def RegNilWrongFalsely : Prop := regNilRow.holds Try.pinned (OpenSpec.ofChange regNilWrong)

/-- 'minuterielaw03.BusMeets': WHATEVER THE INPUT: true; the input reads as it did. -/
def busMeetsSpec : ChangeSpec := { name := "busMeets", fn := fun _ => fun
  | [d1, d2, d3] => { results := [.lit (.bool true)], args := [d1, d2, d3] }
  | _ => none }
def busMeetsRow : OpenClaim := { program := "ytgkklgebgabncaa", sum := "5383f3bc040afce51aa91e1343b53e6d58dd511297b4edf6d899ec7da3a320f2", func := "minuterie/minuterielaw03.BusMeets", spec := "busMeets", unfollowed := true, recurses := true, plainKeys := false, apart := false }
def BusMeetsSaid : Prop := busMeetsRow.holds Try.pinned (OpenSpec.ofChange busMeetsSpec)

/-- ITS FALSE NEIGHBOUR: 'it returns false'. Refute it at one input. -/
def busMeetsWrong : ChangeSpec := { name := "busMeets", fn := fun _ => fun
  | [d1, d2, d3] => { results := [.lit (.bool false)], args := [d1, d2, d3] }
  | _ => none }
def BusMeetsWrongFalsely : Prop := busMeetsRow.holds Try.pinned (OpenSpec.ofChange busMeetsWrong)

/-- 'minuterielaw03.BusFull': WHATEVER THE INPUT: true; the input reads as it did. -/
def busFullSpec : ChangeSpec := { name := "busFull", fn := fun _ => fun
  | [d1, d2] => { results := [.lit (.bool true)], args := [d1, d2] }
  | _ => none }
def busFullRow : OpenClaim := { program := "ytgkklgebgabncaa", sum := "5383f3bc040afce51aa91e1343b53e6d58dd511297b4edf6d899ec7da3a320f2", func := "minuterie/minuterielaw03.BusFull", spec := "busFull", unfollowed := true, recurses := true, plainKeys := false, apart := false }
def BusFullSaid : Prop := busFullRow.holds Try.pinned (OpenSpec.ofChange busFullSpec)

/-- ITS FALSE NEIGHBOUR: 'it returns false'. Refute it at one input. -/
def busFullWrong : ChangeSpec := { name := "busFull", fn := fun _ => fun
  | [d1, d2] => { results := [.lit (.bool false)], args := [d1, d2] }
  | _ => none }
def BusFullWrongFalsely : Prop := busFullRow.holds Try.pinned (OpenSpec.ofChange busFullWrong)

/-- 'minuterielaw03.BusNil': WHATEVER THE INPUT: true; the input reads as it did. -/
def busNilSpec : ChangeSpec := { name := "busNil", fn := fun _ => fun
  | [d1, d2] => { results := [.lit (.bool true)], args := [d1, d2] }
  | _ => none }
def busNilRow : OpenClaim := { program := "ytgkklgebgabncaa", sum := "5383f3bc040afce51aa91e1343b53e6d58dd511297b4edf6d899ec7da3a320f2", func := "minuterie/minuterielaw03.BusNil", spec := "busNil", unfollowed := true, recurses := true, plainKeys := false, apart := false }
def BusNilSaid : Prop := busNilRow.holds Try.pinned (OpenSpec.ofChange busNilSpec)

/-- ITS FALSE NEIGHBOUR: 'it returns false'. Refute it at one input. -/
def busNilWrong : ChangeSpec := { name := "busNil", fn := fun _ => fun
  | [d1, d2] => { results := [.lit (.bool false)], args := [d1, d2] }
  | _ => none }
def BusNilWrongFalsely : Prop := busNilRow.holds Try.pinned (OpenSpec.ofChange busNilWrong)

/-- 'minuterielaw03.BusApart': WHATEVER THE INPUT: true; the input reads as it did. -/
def busApartSpec : ChangeSpec := { name := "busApart", fn := fun _ => fun
  | [d1, d2, d3, d4] => { results := [.lit (.bool true)], args := [d1, d2, d3, d4] }
  | _ => none }
def busApartRow : OpenClaim := { program := "ytgkklgebgabncaa", sum := "5383f3bc040afce51aa91e1343b53e6d58dd511297b4edf6d899ec7da3a320f2", func := "minuterie/minuterielaw03.BusApart", spec := "busApart", unfollowed := true, recurses := true, plainKeys := false, apart := false }
def BusApartSaid : Prop := busApartRow.holds Try.pinned (OpenSpec.ofChange busApartSpec)

/-- ITS FALSE NEIGHBOUR: 'it returns false'. Refute it at one input. -/
def busApartWrong : ChangeSpec := { name := "busApart", fn := fun _ => fun
  | [d1, d2, d3, d4] => { results := [.lit (.bool false)], args := [d1, d2, d3, d4] }
  | _ => none }
def BusApartWrongFalsely : Prop := busApartRow.holds Try.pinned (OpenSpec.ofChange busApartWrong)

/-- 'minuterielaw03.BusPlays': WHATEVER THE INPUT: true; the input reads as it did. -/
def busPlaysSpec : ChangeSpec := { name := "busPlays", fn := fun _ => fun
  | [d] => { results := [.lit (.bool true)], args := [d] }
  | _ => none }
def busPlaysRow : OpenClaim := { program := "ytgkklgebgabncaa", sum := "5383f3bc040afce51aa91e1343b53e6d58dd511297b4edf6d899ec7da3a320f2", func := "minuterie/minuterielaw03.BusPlays", spec := "busPlays", unfollowed := true, recurses := true, plainKeys := false, apart := false }
def BusPlaysSaid : Prop := busPlaysRow.holds Try.pinned (OpenSpec.ofChange busPlaysSpec)

/-- ITS FALSE NEIGHBOUR: 'it returns false'. Refute it at one input. -/
def busPlaysWrong : ChangeSpec := { name := "busPlays", fn := fun _ => fun
  | [d] => { results := [.lit (.bool false)], args := [d] }
  | _ => none }
def BusPlaysWrongFalsely : Prop := busPlaysRow.holds Try.pinned (OpenSpec.ofChange busPlaysWrong)

/- THE SECOND FORM. 'bulk': how many values and letters a reading holds, each counted each time it is reached (what is shared counts as often as it is met; a slice's spare places count too). A statement '..UptoSaid' is the law's where the arguments, and the package variables that the reading takes, are together of bulk at most 1048576: NARROWER than '..Said'. Prove '..Said' where nothing that the law and all that it calls make is longer than what came in: it says more and counts as full. Else prove '..UptoSaid'. A law counts once. -/
mutual
def uptoBulk {H : Type} : DataW H → Nat
  | .lit (.string bytes) => bytes.length + 1
  | .lit _ => 1
  | .nil => 1
  | .ptr d => uptoBulk d + 1
  | .slice elems spare => uptoBulkAll elems + uptoBulkAll spare + 1
  | .agg parts => uptoBulkAll parts + 1
  | .iface _ d => uptoBulk d + 1
  | .map entries => uptoBulkEntries entries + 1
  | .held _ => 1
def uptoBulkAll {H : Type} : List (DataW H) → Nat
  | [] => 0
  | d :: r => uptoBulk d + uptoBulkAll r
def uptoBulkEntries {H : Type} : List (Lit × DataW H) → Nat
  | [] => 0
  | x :: r => uptoBulkEntry x + uptoBulkEntries r
def uptoBulkEntry {H : Type} : Lit × DataW H → Nat
  | (.string bytes, d) => bytes.length + uptoBulk d + 1
  | (_, d) => uptoBulk d + 1
 end
def uptoSmall : (H : Type) → List (DataW H) → Bool := fun _ ds => decide (uptoBulkAll ds ≤ 1048576)
def OpenSpec.upto (s : _root_.Go.ChangeSpec) : _root_.Go.OpenSpec := { _root_.Go.OpenSpec.ofChange s with cond := some uptoSmall }

/-- 'minuterielaw02.RegPlays', WHERE WHAT IT READS IS OF BULK AT MOST 1048576: true; the input reads as it did. -/
def regPlaysUptoRow : OpenClaim := { program := "ytgkklgebgabncaa", sum := "5383f3bc040afce51aa91e1343b53e6d58dd511297b4edf6d899ec7da3a320f2", func := "minuterie/minuterielaw02.RegPlays", spec := "regPlays", inPlace := ["maps.clone"], unfollowed := true, recurses := true, plainKeys := false, apart := false, narrowed := true }
def RegPlaysUptoSaid : Prop := regPlaysUptoRow.holds Try.pinned (OpenSpec.upto regPlaysSpec)

/-- 'minuterielaw02.RegNil', WHERE WHAT IT READS IS OF BULK AT MOST 1048576: true; the input reads as it did. -/
def regNilUptoRow : OpenClaim := { program := "ytgkklgebgabncaa", sum := "5383f3bc040afce51aa91e1343b53e6d58dd511297b4edf6d899ec7da3a320f2", func := "minuterie/minuterielaw02.RegNil", spec := "regNil", inPlace := ["maps.clone"], unfollowed := true, recurses := true, plainKeys := false, apart := false, narrowed := true }
def RegNilUptoSaid : Prop := regNilUptoRow.holds Try.pinned (OpenSpec.upto regNilSpec)

/-- 'minuterielaw03.BusMeets', WHERE WHAT IT READS IS OF BULK AT MOST 1048576: true; the input reads as it did. -/
def busMeetsUptoRow : OpenClaim := { program := "ytgkklgebgabncaa", sum := "5383f3bc040afce51aa91e1343b53e6d58dd511297b4edf6d899ec7da3a320f2", func := "minuterie/minuterielaw03.BusMeets", spec := "busMeets", unfollowed := true, recurses := true, plainKeys := false, apart := false, narrowed := true }
def BusMeetsUptoSaid : Prop := busMeetsUptoRow.holds Try.pinned (OpenSpec.upto busMeetsSpec)

/-- 'minuterielaw03.BusFull', WHERE WHAT IT READS IS OF BULK AT MOST 1048576: true; the input reads as it did. -/
def busFullUptoRow : OpenClaim := { program := "ytgkklgebgabncaa", sum := "5383f3bc040afce51aa91e1343b53e6d58dd511297b4edf6d899ec7da3a320f2", func := "minuterie/minuterielaw03.BusFull", spec := "busFull", unfollowed := true, recurses := true, plainKeys := false, apart := false, narrowed := true }
def BusFullUptoSaid : Prop := busFullUptoRow.holds Try.pinned (OpenSpec.upto busFullSpec)

/-- 'minuterielaw03.BusNil', WHERE WHAT IT READS IS OF BULK AT MOST 1048576: true; the input reads as it did. -/
def busNilUptoRow : OpenClaim := { program := "ytgkklgebgabncaa", sum := "5383f3bc040afce51aa91e1343b53e6d58dd511297b4edf6d899ec7da3a320f2", func := "minuterie/minuterielaw03.BusNil", spec := "busNil", unfollowed := true, recurses := true, plainKeys := false, apart := false, narrowed := true }
def BusNilUptoSaid : Prop := busNilUptoRow.holds Try.pinned (OpenSpec.upto busNilSpec)

/-- 'minuterielaw03.BusApart', WHERE WHAT IT READS IS OF BULK AT MOST 1048576: true; the input reads as it did. -/
def busApartUptoRow : OpenClaim := { program := "ytgkklgebgabncaa", sum := "5383f3bc040afce51aa91e1343b53e6d58dd511297b4edf6d899ec7da3a320f2", func := "minuterie/minuterielaw03.BusApart", spec := "busApart", unfollowed := true, recurses := true, plainKeys := false, apart := false, narrowed := true }
def BusApartUptoSaid : Prop := busApartUptoRow.holds Try.pinned (OpenSpec.upto busApartSpec)

/-- 'minuterielaw03.BusPlays', WHERE WHAT IT READS IS OF BULK AT MOST 1048576: true; the input reads as it did. -/
def busPlaysUptoRow : OpenClaim := { program := "ytgkklgebgabncaa", sum := "5383f3bc040afce51aa91e1343b53e6d58dd511297b4edf6d899ec7da3a320f2", func := "minuterie/minuterielaw03.BusPlays", spec := "busPlays", unfollowed := true, recurses := true, plainKeys := false, apart := false, narrowed := true }
def BusPlaysUptoSaid : Prop := busPlaysUptoRow.holds Try.pinned (OpenSpec.upto busPlaysSpec)

end Rows
end Go.Proofs.Ytgkklgebgabncaa
