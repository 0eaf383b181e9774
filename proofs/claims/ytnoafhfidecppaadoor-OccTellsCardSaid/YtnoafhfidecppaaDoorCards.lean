/-
  DERIVED. GIVEN WITH THE SEED: THE CARDS: each row of YtnoafhfidecppaaDoorRows.lean that lists a variable, with what it lists TIED to the program's text (the seventh form; the later family's looks); each row that meets fmt, with fmt's text TOLD by the authors' own Lean function (tested against real Go, not proved from fmt's source: count such statements apart). THE CARD IS WHAT COUNTS. Prove the row's statement (the work); the ties are given (YtnoafhfidecppaaDoorTie.lean); close each card by the builder's one call (the guide's Derived/Test/ToyasCard.lean, 'card_holds'). Laid BY PROGRAM, IN A SANDBOX (cutbox-door.mjs). By AI agents, Wed Nov 11 2026. No macro, syntax, notation, axiom, sorry.
-/
import Derived.Test.YtnoafhfidecppaaDoorRows
import GoSem.ClaimSeven
namespace Go.Proofs.YtnoafhfidecppaaDoor
namespace Rows

/-- THE TIED CARD OF 'minuterielaw01.BitsDigits'. -/
def bitsDigitsCard : Claim7 := { stood := { row := bitsDigitsRow, standIns := [], harness := (true, "6dfa8ea5f831d90a05551f6bdd3e08f85be7d9e907d896165c60970e1d46a7d4"), looks := false }, kinds := [], alts := [], laidByText := true, laidKinds := [.data], laidTests := true, laidLooks := .later }
def BitsDigitsCardSaid : Prop := Claim7.holds Tryd.pinned (.plain (OpenSpec.ofChange bitsDigitsSpec)) bitsDigitsCard

/-- THE TIED CARD OF 'minuterielaw01.BitsTop'. -/
def bitsTopCard : Claim7 := { stood := { row := bitsTopRow, standIns := [], harness := (true, "6dfa8ea5f831d90a05551f6bdd3e08f85be7d9e907d896165c60970e1d46a7d4"), looks := false }, kinds := [], alts := [], laidByText := true, laidKinds := [.data], laidTests := true, laidLooks := .later }
def BitsTopCardSaid : Prop := Claim7.holds Tryd.pinned (.plain (OpenSpec.ofChange bitsTopSpec)) bitsTopCard

/-- THE TIED CARD OF 'minuterielaw01.BitsFields'. -/
def bitsFieldsCard : Claim7 := { stood := { row := bitsFieldsRow, standIns := [], harness := (true, "6dfa8ea5f831d90a05551f6bdd3e08f85be7d9e907d896165c60970e1d46a7d4"), looks := false }, kinds := [], alts := [], laidByText := true, laidKinds := [.data], laidTests := true, laidLooks := .later }
def BitsFieldsCardSaid : Prop := Claim7.holds Tryd.pinned (.plain (OpenSpec.ofChange bitsFieldsSpec)) bitsFieldsCard

/-- THE TIED CARD OF 'minuterielaw01.BitsHalves'. -/
def bitsHalvesCard : Claim7 := { stood := { row := bitsHalvesRow, standIns := [], harness := (true, "6dfa8ea5f831d90a05551f6bdd3e08f85be7d9e907d896165c60970e1d46a7d4"), looks := false }, kinds := [], alts := [], laidByText := true, laidKinds := [.data], laidTests := true, laidLooks := .later }
def BitsHalvesCardSaid : Prop := Claim7.holds Tryd.pinned (.plain (OpenSpec.ofChange bitsHalvesSpec)) bitsHalvesCard

/-- THE TIED CARD OF 'minuterielaw15.OccGoes'. -/
def occGoesCard : Claim7 := { stood := { row := occGoesRow, standIns := [], harness := (true, "6dfa8ea5f831d90a05551f6bdd3e08f85be7d9e907d896165c60970e1d46a7d4"), looks := false }, kinds := [], alts := [], laidByText := true, laidKinds := [.data], laidTests := true, laidLooks := .later }
def OccGoesCardSaid : Prop := Claim7.holds Tryd.pinned (.plain (OpenSpec.ofChange occGoesSpec)) occGoesCard

/-- THE TIED CARD OF 'minuterielaw15.OccTurns'. -/
def occTurnsCard : Claim7 := { stood := { row := occTurnsRow, standIns := [], harness := (true, "6dfa8ea5f831d90a05551f6bdd3e08f85be7d9e907d896165c60970e1d46a7d4"), looks := false }, kinds := [], alts := [], laidByText := true, laidKinds := [.data], laidTests := true, laidLooks := .later }
def OccTurnsCardSaid : Prop := Claim7.holds Tryd.pinned (.plain (OpenSpec.ofChange occTurnsSpec)) occTurnsCard

/-- THE TIED CARD OF 'minuterielaw15.OccTells'. -/
def occTellsCard : Claim7 := { stood := { row := occTellsRow, standIns := [], harness := (true, "6dfa8ea5f831d90a05551f6bdd3e08f85be7d9e907d896165c60970e1d46a7d4"), looks := false }, kinds := [], alts := [], laidByText := true, laidKinds := [.data], laidTests := true, laidLooks := .later }
def OccTellsCardSaid : Prop := Claim7.holds Tryd.pinned (.plain (OpenSpec.ofChange occTellsSpec)) occTellsCard

/-- THE SECOND FORM's CARD OF 'minuterielaw01.BitsDigits'. -/
def bitsDigitsUptoCard : Claim7 := { stood := { row := bitsDigitsUptoRow, standIns := [], harness := (true, "6dfa8ea5f831d90a05551f6bdd3e08f85be7d9e907d896165c60970e1d46a7d4"), looks := false }, kinds := [], alts := [], laidByText := true, laidKinds := [.data], laidTests := true, laidLooks := .later }
def BitsDigitsUptoCardSaid : Prop := Claim7.holds Tryd.pinned (.plain (OpenSpec.upto bitsDigitsSpec)) bitsDigitsUptoCard

/-- THE SECOND FORM's CARD OF 'minuterielaw01.BitsTop'. -/
def bitsTopUptoCard : Claim7 := { stood := { row := bitsTopUptoRow, standIns := [], harness := (true, "6dfa8ea5f831d90a05551f6bdd3e08f85be7d9e907d896165c60970e1d46a7d4"), looks := false }, kinds := [], alts := [], laidByText := true, laidKinds := [.data], laidTests := true, laidLooks := .later }
def BitsTopUptoCardSaid : Prop := Claim7.holds Tryd.pinned (.plain (OpenSpec.upto bitsTopSpec)) bitsTopUptoCard

/-- THE SECOND FORM's CARD OF 'minuterielaw01.BitsFields'. -/
def bitsFieldsUptoCard : Claim7 := { stood := { row := bitsFieldsUptoRow, standIns := [], harness := (true, "6dfa8ea5f831d90a05551f6bdd3e08f85be7d9e907d896165c60970e1d46a7d4"), looks := false }, kinds := [], alts := [], laidByText := true, laidKinds := [.data], laidTests := true, laidLooks := .later }
def BitsFieldsUptoCardSaid : Prop := Claim7.holds Tryd.pinned (.plain (OpenSpec.upto bitsFieldsSpec)) bitsFieldsUptoCard

/-- THE SECOND FORM's CARD OF 'minuterielaw01.BitsHalves'. -/
def bitsHalvesUptoCard : Claim7 := { stood := { row := bitsHalvesUptoRow, standIns := [], harness := (true, "6dfa8ea5f831d90a05551f6bdd3e08f85be7d9e907d896165c60970e1d46a7d4"), looks := false }, kinds := [], alts := [], laidByText := true, laidKinds := [.data], laidTests := true, laidLooks := .later }
def BitsHalvesUptoCardSaid : Prop := Claim7.holds Tryd.pinned (.plain (OpenSpec.upto bitsHalvesSpec)) bitsHalvesUptoCard

/-- THE SECOND FORM's CARD OF 'minuterielaw15.OccGoes'. -/
def occGoesUptoCard : Claim7 := { stood := { row := occGoesUptoRow, standIns := [], harness := (true, "6dfa8ea5f831d90a05551f6bdd3e08f85be7d9e907d896165c60970e1d46a7d4"), looks := false }, kinds := [], alts := [], laidByText := true, laidKinds := [.data], laidTests := true, laidLooks := .later }
def OccGoesUptoCardSaid : Prop := Claim7.holds Tryd.pinned (.plain (OpenSpec.upto occGoesSpec)) occGoesUptoCard

/-- THE SECOND FORM's CARD OF 'minuterielaw15.OccTurns'. -/
def occTurnsUptoCard : Claim7 := { stood := { row := occTurnsUptoRow, standIns := [], harness := (true, "6dfa8ea5f831d90a05551f6bdd3e08f85be7d9e907d896165c60970e1d46a7d4"), looks := false }, kinds := [], alts := [], laidByText := true, laidKinds := [.data], laidTests := true, laidLooks := .later }
def OccTurnsUptoCardSaid : Prop := Claim7.holds Tryd.pinned (.plain (OpenSpec.upto occTurnsSpec)) occTurnsUptoCard

/-- THE SECOND FORM's CARD OF 'minuterielaw15.OccTells'. -/
def occTellsUptoCard : Claim7 := { stood := { row := occTellsUptoRow, standIns := [], harness := (true, "6dfa8ea5f831d90a05551f6bdd3e08f85be7d9e907d896165c60970e1d46a7d4"), looks := false }, kinds := [], alts := [], laidByText := true, laidKinds := [.data], laidTests := true, laidLooks := .later }
def OccTellsUptoCardSaid : Prop := Claim7.holds Tryd.pinned (.plain (OpenSpec.upto occTellsSpec)) occTellsUptoCard
end Rows
end Go.Proofs.YtnoafhfidecppaaDoor
