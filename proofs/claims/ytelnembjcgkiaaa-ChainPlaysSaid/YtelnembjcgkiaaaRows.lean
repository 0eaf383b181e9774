/-
  No cell of these rows narrows 'for every input' (looked for: loops, veiled, ifaces, maps, wideKeys, modest, calm, conditions, laid).
  DERIVED. THE GIVEN ROWS OF THIS SEAT. 4 by the template 'for every input the law returns true; each argument reads behind the call as it read before'; 0 by the template 'total and deterministic' (their statements: YtelnembjcgkiaaaTotals.lean).
  GIVEN WITH THE SEED: the statements are not yours to turn. If you find one false, say at which input.
  Laid BY PROGRAM, IN A SANDBOX (cutbox-rows.mjs): the forced cells as the released guide's own fill.sh prints them over the translation 03df764323c1e722… (all of the seat's roots in one cut). By AI agents, Wed Nov 11 2026. No macro, syntax, notation, axiom, sorry.
-/
import Derived.Test.YtelnembjcgkiaaaChecked
import GoSem.Claim
import GoSem.ClaimJoined
import GoSem.ClaimMapViews
import Derived.JoinedTies
import Derived.KernelRfl
namespace Go.Proofs.Ytelnembjcgkiaaa
/- THE CELL 'sum', in the pinned program and in every row, IS THE sha256 OF THE DUMP (.gsa) THAT YtelnembjcgkiaaaProg.lean LOADS. Nothing in Lean hashes anything: it is a label: what it is worth is what the hold of that sum in a sandbox is worth. -/
noncomputable def Try.pinned : Pinned := { name := "ytelnembjcgkiaaa", sum := "03df764323c1e72291203e52916be877b44f4b58bd36500ec19c7511b5a9f770", checked := Try.checked }
namespace Rows
def none {H : Type} : Left H := { results := [], args := [] }

/-- 'minuterielaw17.ChainGoes': WHATEVER THE INPUT: true; the input reads as it did. -/
def chainGoesSpec : ChangeSpec := { name := "chainGoes", fn := fun _ => fun
  | [d1, d2] => { results := [.lit (.bool true)], args := [d1, d2] }
  | _ => none }
def chainGoesRow : OpenClaim := { program := "ytelnembjcgkiaaa", sum := "03df764323c1e72291203e52916be877b44f4b58bd36500ec19c7511b5a9f770", func := "minuterie/minuterielaw17.ChainGoes", spec := "chainGoes", unfollowed := true, recurses := true, plainKeys := false, apart := false }
def ChainGoesSaid : Prop := chainGoesRow.holds Try.pinned (OpenSpec.ofChange chainGoesSpec)

/-- ITS FALSE NEIGHBOUR: 'it returns false'. Refute it at one input. -/
def chainGoesWrong : ChangeSpec := { name := "chainGoes", fn := fun _ => fun
  | [d1, d2] => { results := [.lit (.bool false)], args := [d1, d2] }
  | _ => none }
def ChainGoesWrongFalsely : Prop := chainGoesRow.holds Try.pinned (OpenSpec.ofChange chainGoesWrong)

/-- 'minuterielaw17.ChainTakes': WHATEVER THE INPUT: true; the input reads as it did. -/
def chainTakesSpec : ChangeSpec := { name := "chainTakes", fn := fun _ => fun
  | [d1, d2, d3, d4] => { results := [.lit (.bool true)], args := [d1, d2, d3, d4] }
  | _ => none }
def chainTakesRow : OpenClaim := { program := "ytelnembjcgkiaaa", sum := "03df764323c1e72291203e52916be877b44f4b58bd36500ec19c7511b5a9f770", func := "minuterie/minuterielaw17.ChainTakes", spec := "chainTakes", unfollowed := true, recurses := true, plainKeys := false, apart := false }
def ChainTakesSaid : Prop := chainTakesRow.holds Try.pinned (OpenSpec.ofChange chainTakesSpec)

/-- ITS FALSE NEIGHBOUR: 'it returns false'. Refute it at one input. -/
def chainTakesWrong : ChangeSpec := { name := "chainTakes", fn := fun _ => fun
  | [d1, d2, d3, d4] => { results := [.lit (.bool false)], args := [d1, d2, d3, d4] }
  | _ => none }
def ChainTakesWrongFalsely : Prop := chainTakesRow.holds Try.pinned (OpenSpec.ofChange chainTakesWrong)

/-- 'minuterielaw17.ChainPlays': WHATEVER THE INPUT: true; the input reads as it did. -/
def chainPlaysSpec : ChangeSpec := { name := "chainPlays", fn := fun _ => fun
  | [d1, d2] => { results := [.lit (.bool true)], args := [d1, d2] }
  | _ => none }
def chainPlaysRow : OpenClaim := { program := "ytelnembjcgkiaaa", sum := "03df764323c1e72291203e52916be877b44f4b58bd36500ec19c7511b5a9f770", func := "minuterie/minuterielaw17.ChainPlays", spec := "chainPlays", inPlace := ["maps.clone"], unfollowed := true, recurses := true, plainKeys := false, apart := false }
def ChainPlaysSaid : Prop := chainPlaysRow.holds Try.pinned (OpenSpec.ofChange chainPlaysSpec)

/-- ITS FALSE NEIGHBOUR: 'it returns false'. Refute it at one input. -/
def chainPlaysWrong : ChangeSpec := { name := "chainPlays", fn := fun _ => fun
  | [d1, d2] => { results := [.lit (.bool false)], args := [d1, d2] }
  | _ => none }
def ChainPlaysWrongFalsely : Prop := chainPlaysRow.holds Try.pinned (OpenSpec.ofChange chainPlaysWrong)

/-- 'minuterielaw17.ChainNil': WHATEVER THE INPUT: true; the input reads as it did. -/
def chainNilSpec : ChangeSpec := { name := "chainNil", fn := fun _ => fun
  | [d1, d2] => { results := [.lit (.bool true)], args := [d1, d2] }
  | _ => none }
def chainNilRow : OpenClaim := { program := "ytelnembjcgkiaaa", sum := "03df764323c1e72291203e52916be877b44f4b58bd36500ec19c7511b5a9f770", func := "minuterie/minuterielaw17.ChainNil", spec := "chainNil", inPlace := ["maps.clone"], unfollowed := true, recurses := true, plainKeys := false, apart := false }
def ChainNilSaid : Prop := chainNilRow.holds Try.pinned (OpenSpec.ofChange chainNilSpec)

/-- ITS FALSE NEIGHBOUR: 'it returns false'. Refute it at one input. -/
def chainNilWrong : ChangeSpec := { name := "chainNil", fn := fun _ => fun
  | [d1, d2] => { results := [.lit (.bool false)], args := [d1, d2] }
  | _ => none }
def ChainNilWrongFalsely : Prop := chainNilRow.holds Try.pinned (OpenSpec.ofChange chainNilWrong)

/- THE SECOND FORM. 'bulk': how many values and letters a reading holds, each counted each time it is reached (what is shared counts as often as it is met; a slice's spare places count too). A statement '..UptoSaid' is the law's where the arguments, and the package variables that the reading takes, are together of bulk at most 1048576: NARROWER than '..Said'. Prove '..Said' where nothing that the law and all that it calls make is longer than what came in: it says more and counts as full. Else prove '..UptoSaid'. A law counts once. -/
mutual
def uptoBulk {H : Type} : DataW H → Nat
  | .lit (.string bytes) => bytes.length + 1
  | .lit _ => 1
  | .nil => 1
  | .ptr d => uptoBulk d + 1
  | .slice elems spare => uptoBulkAll elems + uptoBulkAll spare + 1
  | .agg parts => uptoBulkAll parts + 1
  | .iface _ d => uptoBulk d + 1
  | .map entries => uptoBulkEntries entries + 1
  | .held _ => 1
def uptoBulkAll {H : Type} : List (DataW H) → Nat
  | [] => 0
  | d :: r => uptoBulk d + uptoBulkAll r
def uptoBulkEntries {H : Type} : List (Lit × DataW H) → Nat
  | [] => 0
  | x :: r => uptoBulkEntry x + uptoBulkEntries r
def uptoBulkEntry {H : Type} : Lit × DataW H → Nat
  | (.string bytes, d) => bytes.length + uptoBulk d + 1
  | (_, d) => uptoBulk d + 1
 end
def uptoSmall : (H : Type) → List (DataW H) → Bool := fun _ ds => decide (uptoBulkAll ds ≤ 1048576)
def OpenSpec.upto (s : _root_.Go.ChangeSpec) : _root_.Go.OpenSpec := { _root_.Go.OpenSpec.ofChange s with cond := some uptoSmall }

/-- 'minuterielaw17.ChainGoes', WHERE WHAT IT READS IS OF BULK AT MOST 1048576: true; the input reads as it did. -/
def chainGoesUptoRow : OpenClaim := { program := "ytelnembjcgkiaaa", sum := "03df764323c1e72291203e52916be877b44f4b58bd36500ec19c7511b5a9f770", func := "minuterie/minuterielaw17.ChainGoes", spec := "chainGoes", unfollowed := true, recurses := true, plainKeys := false, apart := false, narrowed := true }
def ChainGoesUptoSaid : Prop := chainGoesUptoRow.holds Try.pinned (OpenSpec.upto chainGoesSpec)

/-- 'minuterielaw17.ChainTakes', WHERE WHAT IT READS IS OF BULK AT MOST 1048576: true; the input reads as it did. -/
def chainTakesUptoRow : OpenClaim := { program := "ytelnembjcgkiaaa", sum := "03df764323c1e72291203e52916be877b44f4b58bd36500ec19c7511b5a9f770", func := "minuterie/minuterielaw17.ChainTakes", spec := "chainTakes", unfollowed := true, recurses := true, plainKeys := false, apart := false, narrowed := true }
def ChainTakesUptoSaid : Prop := chainTakesUptoRow.holds Try.pinned (OpenSpec.upto chainTakesSpec)

/-- 'minuterielaw17.ChainPlays', WHERE WHAT IT READS IS OF BULK AT MOST 1048576: true; the input reads as it did. -/
def chainPlaysUptoRow : OpenClaim := { program := "ytelnembjcgkiaaa", sum := "03df764323c1e72291203e52916be877b44f4b58bd36500ec19c7511b5a9f770", func := "minuterie/minuterielaw17.ChainPlays", spec := "chainPlays", inPlace := ["maps.clone"], unfollowed := true, recurses := true, plainKeys := false, apart := false, narrowed := true }
def ChainPlaysUptoSaid : Prop := chainPlaysUptoRow.holds Try.pinned (OpenSpec.upto chainPlaysSpec)

/-- 'minuterielaw17.ChainNil', WHERE WHAT IT READS IS OF BULK AT MOST 1048576: true; the input reads as it did. -/
def chainNilUptoRow : OpenClaim := { program := "ytelnembjcgkiaaa", sum := "03df764323c1e72291203e52916be877b44f4b58bd36500ec19c7511b5a9f770", func := "minuterie/minuterielaw17.ChainNil", spec := "chainNil", inPlace := ["maps.clone"], unfollowed := true, recurses := true, plainKeys := false, apart := false, narrowed := true }
def ChainNilUptoSaid : Prop := chainNilUptoRow.holds Try.pinned (OpenSpec.upto chainNilSpec)

end Rows
end Go.Proofs.Ytelnembjcgkiaaa
