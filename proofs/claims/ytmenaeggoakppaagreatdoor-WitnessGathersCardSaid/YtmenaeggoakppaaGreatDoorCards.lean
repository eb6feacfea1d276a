/-
  DERIVED. GIVEN WITH THE SEED: THE CARDS: each row of YtmenaeggoakppaaGreatDoorRows.lean that lists a variable, with what it lists TIED to the program's text (the seventh form; the later family's looks); each row that meets fmt, with fmt's text TOLD by the authors' own Lean function (tested against real Go, not proved from fmt's source: count such statements apart). THE CARD IS WHAT COUNTS. Prove the row's statement (the work); the ties are given (YtmenaeggoakppaaGreatDoorTie.lean); close each card by the builder's one call (the guide's Derived/Test/ToyasCard.lean, 'card_holds'). Laid BY PROGRAM, IN A SANDBOX (cutbox-door.mjs). By AI agents, Wed Nov 11 2026. No macro, syntax, notation, axiom, sorry.
-/
import Derived.Test.YtmenaeggoakppaaGreatDoorRows
import GoSem.ClaimSeven
namespace Go.Proofs.YtmenaeggoakppaaGreatDoor
namespace Rows

/-- THE TIED CARD OF 'ledgerlaw22.WitnessVerifies'. -/
def witnessVerifiesCard : Claim7 := { stood := { row := witnessVerifiesRow, standIns := [], harness := (true, "58392b2166c13c6e7a52e6b2dae9464c25920fb9172fa8cc5d29907e01ff2984"), looks := false }, kinds := [], alts := [], laidByText := true, laidKinds := [.data, .data, .data, .data], laidTests := true, laidLooks := .later }
def WitnessVerifiesCardSaid : Prop := Claim7.holds Tryz.pinned (.plain (OpenSpec.ofChange witnessVerifiesSpec)) witnessVerifiesCard

/-- THE TIED CARD OF 'ledgerlaw22.WitnessParts'. -/
def witnessPartsCard : Claim7 := { stood := { row := witnessPartsRow, standIns := [], harness := (true, "58392b2166c13c6e7a52e6b2dae9464c25920fb9172fa8cc5d29907e01ff2984"), looks := false }, kinds := [], alts := [], laidByText := true, laidKinds := [.data, .data, .data, .data], laidTests := true, laidLooks := .later }
def WitnessPartsCardSaid : Prop := Claim7.holds Tryz.pinned (.plain (OpenSpec.ofChange witnessPartsSpec)) witnessPartsCard

/-- THE TIED CARD OF 'ledgerlaw22.WitnessGathers'. -/
def witnessGathersCard : Claim7 := { stood := { row := witnessGathersRow, standIns := [], harness := (true, "58392b2166c13c6e7a52e6b2dae9464c25920fb9172fa8cc5d29907e01ff2984"), looks := false }, kinds := [], alts := [], laidByText := true, laidKinds := [.data, .data, .data, .data], laidTests := true, laidLooks := .later }
def WitnessGathersCardSaid : Prop := Claim7.holds Tryz.pinned (.plain (OpenSpec.ofChange witnessGathersSpec)) witnessGathersCard

/-- THE TIED CARD OF 'ledgerlaw22.WitnessSteps'. -/
def witnessStepsCard : Claim7 := { stood := { row := witnessStepsRow, standIns := [], harness := (true, "58392b2166c13c6e7a52e6b2dae9464c25920fb9172fa8cc5d29907e01ff2984"), looks := false }, kinds := [], alts := [], laidByText := true, laidKinds := [.data, .data, .data, .data], laidTests := true, laidLooks := .later }
def WitnessStepsCardSaid : Prop := Claim7.holds Tryz.pinned (.plain (OpenSpec.ofChange witnessStepsSpec)) witnessStepsCard

/-- THE TIED CARD OF 'ledgerlaw22.WitnessClashes'. -/
def witnessClashesCard : Claim7 := { stood := { row := witnessClashesRow, standIns := [], harness := (true, "58392b2166c13c6e7a52e6b2dae9464c25920fb9172fa8cc5d29907e01ff2984"), looks := false }, kinds := [], alts := [], laidByText := true, laidKinds := [.data, .data, .data, .data], laidTests := true, laidLooks := .later }
def WitnessClashesCardSaid : Prop := Claim7.holds Tryz.pinned (.plain (OpenSpec.ofChange witnessClashesSpec)) witnessClashesCard

/-- THE TIED CARD OF 'ledgerlaw22.WitnessBinds'. -/
def witnessBindsCard : Claim7 := { stood := { row := witnessBindsRow, standIns := [], harness := (true, "58392b2166c13c6e7a52e6b2dae9464c25920fb9172fa8cc5d29907e01ff2984"), looks := false }, kinds := [], alts := [], laidByText := true, laidKinds := [.data, .data, .data, .data], laidTests := true, laidLooks := .later }
def WitnessBindsCardSaid : Prop := Claim7.holds Tryz.pinned (.plain (OpenSpec.ofChange witnessBindsSpec)) witnessBindsCard

/-- THE TIED CARD OF 'ledgerlaw22.WitnessRenews'. -/
def witnessRenewsCard : Claim7 := { stood := { row := witnessRenewsRow, standIns := [], harness := (true, "58392b2166c13c6e7a52e6b2dae9464c25920fb9172fa8cc5d29907e01ff2984"), looks := false }, kinds := [], alts := [], laidByText := true, laidKinds := [.data, .data, .data, .data], laidTests := true, laidLooks := .later }
def WitnessRenewsCardSaid : Prop := Claim7.holds Tryz.pinned (.plain (OpenSpec.ofChange witnessRenewsSpec)) witnessRenewsCard

/-- THE SECOND FORM's CARD OF 'ledgerlaw22.WitnessVerifies'. -/
def witnessVerifiesUptoCard : Claim7 := { stood := { row := witnessVerifiesUptoRow, standIns := [], harness := (true, "58392b2166c13c6e7a52e6b2dae9464c25920fb9172fa8cc5d29907e01ff2984"), looks := false }, kinds := [], alts := [], laidByText := true, laidKinds := [.data, .data, .data, .data], laidTests := true, laidLooks := .later }
def WitnessVerifiesUptoCardSaid : Prop := Claim7.holds Tryz.pinned (.plain (OpenSpec.upto witnessVerifiesSpec)) witnessVerifiesUptoCard

/-- THE SECOND FORM's CARD OF 'ledgerlaw22.WitnessParts'. -/
def witnessPartsUptoCard : Claim7 := { stood := { row := witnessPartsUptoRow, standIns := [], harness := (true, "58392b2166c13c6e7a52e6b2dae9464c25920fb9172fa8cc5d29907e01ff2984"), looks := false }, kinds := [], alts := [], laidByText := true, laidKinds := [.data, .data, .data, .data], laidTests := true, laidLooks := .later }
def WitnessPartsUptoCardSaid : Prop := Claim7.holds Tryz.pinned (.plain (OpenSpec.upto witnessPartsSpec)) witnessPartsUptoCard

/-- THE SECOND FORM's CARD OF 'ledgerlaw22.WitnessGathers'. -/
def witnessGathersUptoCard : Claim7 := { stood := { row := witnessGathersUptoRow, standIns := [], harness := (true, "58392b2166c13c6e7a52e6b2dae9464c25920fb9172fa8cc5d29907e01ff2984"), looks := false }, kinds := [], alts := [], laidByText := true, laidKinds := [.data, .data, .data, .data], laidTests := true, laidLooks := .later }
def WitnessGathersUptoCardSaid : Prop := Claim7.holds Tryz.pinned (.plain (OpenSpec.upto witnessGathersSpec)) witnessGathersUptoCard

/-- THE SECOND FORM's CARD OF 'ledgerlaw22.WitnessSteps'. -/
def witnessStepsUptoCard : Claim7 := { stood := { row := witnessStepsUptoRow, standIns := [], harness := (true, "58392b2166c13c6e7a52e6b2dae9464c25920fb9172fa8cc5d29907e01ff2984"), looks := false }, kinds := [], alts := [], laidByText := true, laidKinds := [.data, .data, .data, .data], laidTests := true, laidLooks := .later }
def WitnessStepsUptoCardSaid : Prop := Claim7.holds Tryz.pinned (.plain (OpenSpec.upto witnessStepsSpec)) witnessStepsUptoCard

/-- THE SECOND FORM's CARD OF 'ledgerlaw22.WitnessClashes'. -/
def witnessClashesUptoCard : Claim7 := { stood := { row := witnessClashesUptoRow, standIns := [], harness := (true, "58392b2166c13c6e7a52e6b2dae9464c25920fb9172fa8cc5d29907e01ff2984"), looks := false }, kinds := [], alts := [], laidByText := true, laidKinds := [.data, .data, .data, .data], laidTests := true, laidLooks := .later }
def WitnessClashesUptoCardSaid : Prop := Claim7.holds Tryz.pinned (.plain (OpenSpec.upto witnessClashesSpec)) witnessClashesUptoCard

/-- THE SECOND FORM's CARD OF 'ledgerlaw22.WitnessBinds'. -/
def witnessBindsUptoCard : Claim7 := { stood := { row := witnessBindsUptoRow, standIns := [], harness := (true, "58392b2166c13c6e7a52e6b2dae9464c25920fb9172fa8cc5d29907e01ff2984"), looks := false }, kinds := [], alts := [], laidByText := true, laidKinds := [.data, .data, .data, .data], laidTests := true, laidLooks := .later }
def WitnessBindsUptoCardSaid : Prop := Claim7.holds Tryz.pinned (.plain (OpenSpec.upto witnessBindsSpec)) witnessBindsUptoCard

/-- THE SECOND FORM's CARD OF 'ledgerlaw22.WitnessRenews'. -/
def witnessRenewsUptoCard : Claim7 := { stood := { row := witnessRenewsUptoRow, standIns := [], harness := (true, "58392b2166c13c6e7a52e6b2dae9464c25920fb9172fa8cc5d29907e01ff2984"), looks := false }, kinds := [], alts := [], laidByText := true, laidKinds := [.data, .data, .data, .data], laidTests := true, laidLooks := .later }
def WitnessRenewsUptoCardSaid : Prop := Claim7.holds Tryz.pinned (.plain (OpenSpec.upto witnessRenewsSpec)) witnessRenewsUptoCard
end Rows
end Go.Proofs.YtmenaeggoakppaaGreatDoor
