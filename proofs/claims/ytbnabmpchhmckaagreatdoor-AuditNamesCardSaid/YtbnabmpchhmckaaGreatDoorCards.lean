/-
  DERIVED. GIVEN WITH THE SEED: THE CARDS: each row of YtbnabmpchhmckaaGreatDoorRows.lean that lists a variable, with what it lists TIED to the program's text (the seventh form; the later family's looks); each row that meets fmt, with fmt's text TOLD by the authors' own Lean function (tested against real Go, not proved from fmt's source: count such statements apart). THE CARD IS WHAT COUNTS. Prove the row's statement (the work); the ties are given (YtbnabmpchhmckaaGreatDoorTie.lean); close each card by the builder's one call (the guide's Derived/Test/ToyasCard.lean, 'card_holds'). Laid BY PROGRAM, IN A SANDBOX (cutbox-door.mjs). By AI agents, Wed Nov 11 2026. No macro, syntax, notation, axiom, sorry.
-/
import Derived.Test.YtbnabmpchhmckaaGreatDoorRows
import GoSem.ClaimSeven
namespace Go.Proofs.YtbnabmpchhmckaaGreatDoor
namespace Rows

/-- THE TIED CARD OF 'ledgerlaw17.AuditNames'. -/
def auditNamesCard : Claim7 := { stood := { row := auditNamesRow, standIns := [], harness := (true, "45aec58223e49c60cea459eb7386691eec86e106ebb5f3489069bf0a52a581a5"), looks := true }, kinds := [], alts := [], laidByText := true, laidKinds := [.data, .data], laidTests := true, laidLooks := .later }
def AuditNamesCardSaid : Prop := Claim7.holds Tryz.pinned (.plain (OpenSpec.ofChange auditNamesSpec)) auditNamesCard

/-- THE SECOND FORM's CARD OF 'ledgerlaw17.AuditNames'. -/
def auditNamesUptoCard : Claim7 := { stood := { row := auditNamesUptoRow, standIns := [], harness := (true, "45aec58223e49c60cea459eb7386691eec86e106ebb5f3489069bf0a52a581a5"), looks := true }, kinds := [], alts := [], laidByText := true, laidKinds := [.data, .data], laidTests := true, laidLooks := .later }
def AuditNamesUptoCardSaid : Prop := Claim7.holds Tryz.pinned (.plain (OpenSpec.upto auditNamesSpec)) auditNamesUptoCard
end Rows
end Go.Proofs.YtbnabmpchhmckaaGreatDoor
