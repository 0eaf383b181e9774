/-
  DERIVED. GIVEN WITH THE SEED: THE CARDS: each row of YtaihebdjhbnhoaaDoorRows.lean that lists a variable, with what it lists TIED to the program's text (the seventh form; the later family's looks); each row that meets fmt, with fmt's text TOLD by the authors' own Lean function (tested against real Go, not proved from fmt's source: count such statements apart). THE CARD IS WHAT COUNTS. Prove the row's statement (the work); the ties are given (YtaihebdjhbnhoaaDoorTie.lean); close each card by the builder's one call (the guide's Derived/Test/ToyasCard.lean, 'card_holds'). Laid BY PROGRAM, IN A SANDBOX (cutbox-door.mjs). By AI agents, Wed Nov 11 2026. No macro, syntax, notation, axiom, sorry.
-/
import Derived.Test.YtaihebdjhbnhoaaDoorRows
import GoSem.ClaimSeven
namespace Go.Proofs.YtaihebdjhbnhoaaDoor
namespace Rows

/-- THE TIED CARD OF 'minuterielaw04.LinesEach'. -/
def linesEachCard : Claim7 := { stood := { row := linesEachRow, standIns := [], harness := (true, "e031d034f544d5b407a29e8505118e997b775cdb025d0e070419f1838f8c2b0b"), looks := false }, kinds := [], alts := [], laidByText := true, laidKinds := [.data], laidTests := true, laidLooks := .later }
def LinesEachCardSaid : Prop := Claim7.holds Tryd.pinned (.plain (OpenSpec.ofChange linesEachSpec)) linesEachCard

/-- THE TIED CARD OF 'minuterielaw04.LinesPlay'. -/
def linesPlayCard : Claim7 := { stood := { row := linesPlayRow, standIns := [], harness := (true, "e031d034f544d5b407a29e8505118e997b775cdb025d0e070419f1838f8c2b0b"), looks := false }, kinds := [], alts := [], laidByText := true, laidKinds := [.data], laidTests := true, laidLooks := .later }
def LinesPlayCardSaid : Prop := Claim7.holds Tryd.pinned (.plain (OpenSpec.ofChange linesPlaySpec)) linesPlayCard

/-- THE TIED CARD OF 'minuterielaw04.LinesNil'. -/
def linesNilCard : Claim7 := { stood := { row := linesNilRow, standIns := [], harness := (true, "e031d034f544d5b407a29e8505118e997b775cdb025d0e070419f1838f8c2b0b"), looks := false }, kinds := [], alts := [], laidByText := true, laidKinds := [.data], laidTests := true, laidLooks := .later }
def LinesNilCardSaid : Prop := Claim7.holds Tryd.pinned (.plain (OpenSpec.ofChange linesNilSpec)) linesNilCard

/-- THE SECOND FORM's CARD OF 'minuterielaw04.LinesEach'. -/
def linesEachUptoCard : Claim7 := { stood := { row := linesEachUptoRow, standIns := [], harness := (true, "e031d034f544d5b407a29e8505118e997b775cdb025d0e070419f1838f8c2b0b"), looks := false }, kinds := [], alts := [], laidByText := true, laidKinds := [.data], laidTests := true, laidLooks := .later }
def LinesEachUptoCardSaid : Prop := Claim7.holds Tryd.pinned (.plain (OpenSpec.upto linesEachSpec)) linesEachUptoCard

/-- THE SECOND FORM's CARD OF 'minuterielaw04.LinesPlay'. -/
def linesPlayUptoCard : Claim7 := { stood := { row := linesPlayUptoRow, standIns := [], harness := (true, "e031d034f544d5b407a29e8505118e997b775cdb025d0e070419f1838f8c2b0b"), looks := false }, kinds := [], alts := [], laidByText := true, laidKinds := [.data], laidTests := true, laidLooks := .later }
def LinesPlayUptoCardSaid : Prop := Claim7.holds Tryd.pinned (.plain (OpenSpec.upto linesPlaySpec)) linesPlayUptoCard

/-- THE SECOND FORM's CARD OF 'minuterielaw04.LinesNil'. -/
def linesNilUptoCard : Claim7 := { stood := { row := linesNilUptoRow, standIns := [], harness := (true, "e031d034f544d5b407a29e8505118e997b775cdb025d0e070419f1838f8c2b0b"), looks := false }, kinds := [], alts := [], laidByText := true, laidKinds := [.data], laidTests := true, laidLooks := .later }
def LinesNilUptoCardSaid : Prop := Claim7.holds Tryd.pinned (.plain (OpenSpec.upto linesNilSpec)) linesNilUptoCard
end Rows
end Go.Proofs.YtaihebdjhbnhoaaDoor
