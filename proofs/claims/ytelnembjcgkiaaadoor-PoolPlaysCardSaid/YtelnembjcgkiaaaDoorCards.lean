/-
  DERIVED. GIVEN WITH THE SEED: THE CARDS: each row of YtelnembjcgkiaaaDoorRows.lean that lists a variable, with what it lists TIED to the program's text (the seventh form; the later family's looks); each row that meets fmt, with fmt's text TOLD by the authors' own Lean function (tested against real Go, not proved from fmt's source: count such statements apart). THE CARD IS WHAT COUNTS. Prove the row's statement (the work); the ties are given (YtelnembjcgkiaaaDoorTie.lean); close each card by the builder's one call (the guide's Derived/Test/ToyasCard.lean, 'card_holds'). Laid BY PROGRAM, IN A SANDBOX (cutbox-door.mjs). By AI agents, Wed Nov 11 2026. No macro, syntax, notation, axiom, sorry.
-/
import Derived.Test.YtelnembjcgkiaaaDoorRows
import GoSem.ClaimSeven
namespace Go.Proofs.YtelnembjcgkiaaaDoor
namespace Rows

/-- THE TIED CARD OF 'minuterielaw16.PoolOnce'. -/
def poolOnceCard : Claim7 := { stood := { row := poolOnceRow, standIns := [], harness := (true, "7ac378cdb674577957661a5336fea3f49ee8ff2ad47013de1783b72eb37b65ba"), looks := true }, kinds := [], alts := [], laidByText := true, laidKinds := [.data], laidTests := true, laidLooks := .later }
def PoolOnceCardSaid : Prop := Claim7.holds Tryd.pinned (.plain (OpenSpec.ofChange poolOnceSpec)) poolOnceCard

/-- THE TIED CARD OF 'minuterielaw16.PoolFull'. -/
def poolFullCard : Claim7 := { stood := { row := poolFullRow, standIns := [], harness := (true, "7ac378cdb674577957661a5336fea3f49ee8ff2ad47013de1783b72eb37b65ba"), looks := true }, kinds := [], alts := [], laidByText := true, laidKinds := [.data], laidTests := true, laidLooks := .later }
def PoolFullCardSaid : Prop := Claim7.holds Tryd.pinned (.plain (OpenSpec.ofChange poolFullSpec)) poolFullCard

/-- THE TIED CARD OF 'minuterielaw16.PoolSplits'. -/
def poolSplitsCard : Claim7 := { stood := { row := poolSplitsRow, standIns := [], harness := (true, "7ac378cdb674577957661a5336fea3f49ee8ff2ad47013de1783b72eb37b65ba"), looks := true }, kinds := [], alts := [], laidByText := true, laidKinds := [.data], laidTests := true, laidLooks := .later }
def PoolSplitsCardSaid : Prop := Claim7.holds Tryd.pinned (.plain (OpenSpec.ofChange poolSplitsSpec)) poolSplitsCard

/-- THE TIED CARD OF 'minuterielaw16.PoolPlays'. -/
def poolPlaysCard : Claim7 := { stood := { row := poolPlaysRow, standIns := [], harness := (true, "7ac378cdb674577957661a5336fea3f49ee8ff2ad47013de1783b72eb37b65ba"), looks := true }, kinds := [], alts := [], laidByText := true, laidKinds := [.data], laidTests := true, laidLooks := .later }
def PoolPlaysCardSaid : Prop := Claim7.holds Tryd.pinned (.plain (OpenSpec.ofChange poolPlaysSpec)) poolPlaysCard

/-- THE TIED CARD OF 'minuterielaw16.PoolNil'. -/
def poolNilCard : Claim7 := { stood := { row := poolNilRow, standIns := [], harness := (true, "7ac378cdb674577957661a5336fea3f49ee8ff2ad47013de1783b72eb37b65ba"), looks := true }, kinds := [], alts := [], laidByText := true, laidKinds := [.data], laidTests := true, laidLooks := .later }
def PoolNilCardSaid : Prop := Claim7.holds Tryd.pinned (.plain (OpenSpec.ofChange poolNilSpec)) poolNilCard

/-- THE SECOND FORM's CARD OF 'minuterielaw16.PoolOnce'. -/
def poolOnceUptoCard : Claim7 := { stood := { row := poolOnceUptoRow, standIns := [], harness := (true, "7ac378cdb674577957661a5336fea3f49ee8ff2ad47013de1783b72eb37b65ba"), looks := true }, kinds := [], alts := [], laidByText := true, laidKinds := [.data], laidTests := true, laidLooks := .later }
def PoolOnceUptoCardSaid : Prop := Claim7.holds Tryd.pinned (.plain (OpenSpec.upto poolOnceSpec)) poolOnceUptoCard

/-- THE SECOND FORM's CARD OF 'minuterielaw16.PoolFull'. -/
def poolFullUptoCard : Claim7 := { stood := { row := poolFullUptoRow, standIns := [], harness := (true, "7ac378cdb674577957661a5336fea3f49ee8ff2ad47013de1783b72eb37b65ba"), looks := true }, kinds := [], alts := [], laidByText := true, laidKinds := [.data], laidTests := true, laidLooks := .later }
def PoolFullUptoCardSaid : Prop := Claim7.holds Tryd.pinned (.plain (OpenSpec.upto poolFullSpec)) poolFullUptoCard

/-- THE SECOND FORM's CARD OF 'minuterielaw16.PoolSplits'. -/
def poolSplitsUptoCard : Claim7 := { stood := { row := poolSplitsUptoRow, standIns := [], harness := (true, "7ac378cdb674577957661a5336fea3f49ee8ff2ad47013de1783b72eb37b65ba"), looks := true }, kinds := [], alts := [], laidByText := true, laidKinds := [.data], laidTests := true, laidLooks := .later }
def PoolSplitsUptoCardSaid : Prop := Claim7.holds Tryd.pinned (.plain (OpenSpec.upto poolSplitsSpec)) poolSplitsUptoCard

/-- THE SECOND FORM's CARD OF 'minuterielaw16.PoolPlays'. -/
def poolPlaysUptoCard : Claim7 := { stood := { row := poolPlaysUptoRow, standIns := [], harness := (true, "7ac378cdb674577957661a5336fea3f49ee8ff2ad47013de1783b72eb37b65ba"), looks := true }, kinds := [], alts := [], laidByText := true, laidKinds := [.data], laidTests := true, laidLooks := .later }
def PoolPlaysUptoCardSaid : Prop := Claim7.holds Tryd.pinned (.plain (OpenSpec.upto poolPlaysSpec)) poolPlaysUptoCard

/-- THE SECOND FORM's CARD OF 'minuterielaw16.PoolNil'. -/
def poolNilUptoCard : Claim7 := { stood := { row := poolNilUptoRow, standIns := [], harness := (true, "7ac378cdb674577957661a5336fea3f49ee8ff2ad47013de1783b72eb37b65ba"), looks := true }, kinds := [], alts := [], laidByText := true, laidKinds := [.data], laidTests := true, laidLooks := .later }
def PoolNilUptoCardSaid : Prop := Claim7.holds Tryd.pinned (.plain (OpenSpec.upto poolNilSpec)) poolNilUptoCard
end Rows
end Go.Proofs.YtelnembjcgkiaaaDoor
