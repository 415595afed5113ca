/-
  DERIVED. GIVEN WITH THE SEED: THE CARDS: each row of YtmkcbkdbdcnoiaaGreatDoorRows.lean that lists a variable, with what it lists TIED to the program's text (the seventh form; the later family's looks); each row that meets fmt, with fmt's text TOLD by the authors' own Lean function (tested against real Go, not proved from fmt's source: count such statements apart). THE CARD IS WHAT COUNTS. Prove the row's statement (the work); the ties are given (YtmkcbkdbdcnoiaaGreatDoorTie.lean); close each card by the builder's one call (the guide's Derived/Test/ToyasCard.lean, 'card_holds'). Laid BY PROGRAM, IN A SANDBOX (cutbox-door.mjs). By AI agents, Wed Nov 11 2026. No macro, syntax, notation, axiom, sorry.
-/
import Derived.Test.YtmkcbkdbdcnoiaaGreatDoorRows
import GoSem.ClaimSeven
namespace Go.Proofs.YtmkcbkdbdcnoiaaGreatDoor
namespace Rows

/-- THE TIED CARD OF 'bazaarlaw16.WorldKeeps'. -/
def worldKeepsCard : Claim7 := { stood := { row := worldKeepsRow, standIns := [], harness := (true, "0328203f8aeddd1be902e06292be92380c608eda0943e7b32381ce1f4528c104"), looks := true }, kinds := [], alts := [], laidByText := true, laidKinds := [.handle, .sentinel, .sentinel, .sentinel], laidTests := true, laidLooks := .later }
def WorldKeepsCardSaid : Prop := Claim7.holds Tryz.pinned (.plain (OpenSpec.ofChange worldKeepsSpec)) worldKeepsCard

/-- THE TIED CARD OF 'bazaarlaw16.WorldTurns'. -/
def worldTurnsCard : Claim7 := { stood := { row := worldTurnsRow, standIns := [], harness := (true, "0328203f8aeddd1be902e06292be92380c608eda0943e7b32381ce1f4528c104"), looks := true }, kinds := [], alts := [], laidByText := true, laidKinds := [.handle, .sentinel, .sentinel, .sentinel], laidTests := true, laidLooks := .later }
def WorldTurnsCardSaid : Prop := Claim7.holds Tryz.pinned (.plain (OpenSpec.ofChange worldTurnsSpec)) worldTurnsCard

/-- THE TIED CARD OF 'bazaarlaw16.WorldNumbers'. -/
def worldNumbersCard : Claim7 := { stood := { row := worldNumbersRow, standIns := [], harness := (true, "0328203f8aeddd1be902e06292be92380c608eda0943e7b32381ce1f4528c104"), looks := true }, kinds := [], alts := [], laidByText := true, laidKinds := [.handle, .sentinel, .sentinel, .sentinel], laidTests := true, laidLooks := .later }
def WorldNumbersCardSaid : Prop := Claim7.holds Tryz.pinned (.plain (OpenSpec.ofChange worldNumbersSpec)) worldNumbersCard

/-- THE TIED CARD OF 'bazaarlaw16.WorldBanks'. -/
def worldBanksCard : Claim7 := { stood := { row := worldBanksRow, standIns := [], harness := (true, "0328203f8aeddd1be902e06292be92380c608eda0943e7b32381ce1f4528c104"), looks := true }, kinds := [], alts := [], laidByText := true, laidKinds := [.handle, .sentinel, .sentinel, .sentinel], laidTests := true, laidLooks := .later }
def WorldBanksCardSaid : Prop := Claim7.holds Tryz.pinned (.plain (OpenSpec.ofChange worldBanksSpec)) worldBanksCard

/-- THE TIED CARD OF 'bazaarlaw16.WorldSteps'. -/
def worldStepsCard : Claim7 := { stood := { row := worldStepsRow, standIns := [], harness := (true, "0328203f8aeddd1be902e06292be92380c608eda0943e7b32381ce1f4528c104"), looks := true }, kinds := [], alts := [], laidByText := true, laidKinds := [.handle, .sentinel, .sentinel, .sentinel], laidTests := true, laidLooks := .later }
def WorldStepsCardSaid : Prop := Claim7.holds Tryz.pinned (.plain (OpenSpec.ofChange worldStepsSpec)) worldStepsCard

/-- THE TIED CARD OF 'bazaarlaw16.WorldErrors'. -/
def worldErrorsCard : Claim7 := { stood := { row := worldErrorsRow, standIns := [], harness := (true, "0328203f8aeddd1be902e06292be92380c608eda0943e7b32381ce1f4528c104"), looks := true }, kinds := [], alts := [], laidByText := true, laidKinds := [.handle, .sentinel, .sentinel, .sentinel], laidTests := true, laidLooks := .later }
def WorldErrorsCardSaid : Prop := Claim7.holds Tryz.pinned (.plain (OpenSpec.ofChange worldErrorsSpec)) worldErrorsCard

/-- THE SECOND FORM's CARD OF 'bazaarlaw16.WorldKeeps'. -/
def worldKeepsUptoCard : Claim7 := { stood := { row := worldKeepsUptoRow, standIns := [], harness := (true, "0328203f8aeddd1be902e06292be92380c608eda0943e7b32381ce1f4528c104"), looks := true }, kinds := [], alts := [], laidByText := true, laidKinds := [.handle, .sentinel, .sentinel, .sentinel], laidTests := true, laidLooks := .later }
def WorldKeepsUptoCardSaid : Prop := Claim7.holds Tryz.pinned (.plain (OpenSpec.upto worldKeepsSpec)) worldKeepsUptoCard

/-- THE SECOND FORM's CARD OF 'bazaarlaw16.WorldTurns'. -/
def worldTurnsUptoCard : Claim7 := { stood := { row := worldTurnsUptoRow, standIns := [], harness := (true, "0328203f8aeddd1be902e06292be92380c608eda0943e7b32381ce1f4528c104"), looks := true }, kinds := [], alts := [], laidByText := true, laidKinds := [.handle, .sentinel, .sentinel, .sentinel], laidTests := true, laidLooks := .later }
def WorldTurnsUptoCardSaid : Prop := Claim7.holds Tryz.pinned (.plain (OpenSpec.upto worldTurnsSpec)) worldTurnsUptoCard

/-- THE SECOND FORM's CARD OF 'bazaarlaw16.WorldNumbers'. -/
def worldNumbersUptoCard : Claim7 := { stood := { row := worldNumbersUptoRow, standIns := [], harness := (true, "0328203f8aeddd1be902e06292be92380c608eda0943e7b32381ce1f4528c104"), looks := true }, kinds := [], alts := [], laidByText := true, laidKinds := [.handle, .sentinel, .sentinel, .sentinel], laidTests := true, laidLooks := .later }
def WorldNumbersUptoCardSaid : Prop := Claim7.holds Tryz.pinned (.plain (OpenSpec.upto worldNumbersSpec)) worldNumbersUptoCard

/-- THE SECOND FORM's CARD OF 'bazaarlaw16.WorldBanks'. -/
def worldBanksUptoCard : Claim7 := { stood := { row := worldBanksUptoRow, standIns := [], harness := (true, "0328203f8aeddd1be902e06292be92380c608eda0943e7b32381ce1f4528c104"), looks := true }, kinds := [], alts := [], laidByText := true, laidKinds := [.handle, .sentinel, .sentinel, .sentinel], laidTests := true, laidLooks := .later }
def WorldBanksUptoCardSaid : Prop := Claim7.holds Tryz.pinned (.plain (OpenSpec.upto worldBanksSpec)) worldBanksUptoCard

/-- THE SECOND FORM's CARD OF 'bazaarlaw16.WorldSteps'. -/
def worldStepsUptoCard : Claim7 := { stood := { row := worldStepsUptoRow, standIns := [], harness := (true, "0328203f8aeddd1be902e06292be92380c608eda0943e7b32381ce1f4528c104"), looks := true }, kinds := [], alts := [], laidByText := true, laidKinds := [.handle, .sentinel, .sentinel, .sentinel], laidTests := true, laidLooks := .later }
def WorldStepsUptoCardSaid : Prop := Claim7.holds Tryz.pinned (.plain (OpenSpec.upto worldStepsSpec)) worldStepsUptoCard

/-- THE SECOND FORM's CARD OF 'bazaarlaw16.WorldErrors'. -/
def worldErrorsUptoCard : Claim7 := { stood := { row := worldErrorsUptoRow, standIns := [], harness := (true, "0328203f8aeddd1be902e06292be92380c608eda0943e7b32381ce1f4528c104"), looks := true }, kinds := [], alts := [], laidByText := true, laidKinds := [.handle, .sentinel, .sentinel, .sentinel], laidTests := true, laidLooks := .later }
def WorldErrorsUptoCardSaid : Prop := Claim7.holds Tryz.pinned (.plain (OpenSpec.upto worldErrorsSpec)) worldErrorsUptoCard
end Rows
end Go.Proofs.YtmkcbkdbdcnoiaaGreatDoor
