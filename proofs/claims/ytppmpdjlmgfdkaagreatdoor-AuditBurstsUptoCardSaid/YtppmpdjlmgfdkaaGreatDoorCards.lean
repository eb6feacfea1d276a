/-
  DERIVED. GIVEN WITH THE SEED: THE CARDS: each row of YtppmpdjlmgfdkaaGreatDoorRows.lean that lists a variable, with what it lists TIED to the program's text (the seventh form; the later family's looks); each row that meets fmt, with fmt's text TOLD by the authors' own Lean function (tested against real Go, not proved from fmt's source: count such statements apart). THE CARD IS WHAT COUNTS. Prove the row's statement (the work); the ties are given (YtppmpdjlmgfdkaaGreatDoorTie.lean); close each card by the builder's one call (the guide's Derived/Test/ToyasCard.lean, 'card_holds'). Laid BY PROGRAM, IN A SANDBOX (cutbox-door.mjs). By AI agents, Wed Nov 11 2026. No macro, syntax, notation, axiom, sorry.
-/
import Derived.Test.YtppmpdjlmgfdkaaGreatDoorRows
import GoSem.ClaimSeven
namespace Go.Proofs.YtppmpdjlmgfdkaaGreatDoor
namespace Rows

/-- THE TIED CARD OF 'ledgerlaw17.AuditMade'. -/
def auditMadeCard : Claim7 := { stood := { row := auditMadeRow, standIns := [], harness := (true, "b74b8056090c067643c2d0c1b3f12c998973060d7c8716e5a8b787a50f74c335"), looks := true }, kinds := [], alts := [], laidByText := true, laidKinds := [.data, .data, .data, .data, .data], laidTests := true, laidLooks := .later }
def AuditMadeCardSaid : Prop := Claim7.holds Tryz.pinned (.plain (OpenSpec.ofChange auditMadeSpec)) auditMadeCard

/-- THE TIED CARD OF 'ledgerlaw17.AuditBursts'. -/
def auditBurstsCard : Claim7 := { stood := { row := auditBurstsRow, standIns := [], harness := (true, "b74b8056090c067643c2d0c1b3f12c998973060d7c8716e5a8b787a50f74c335"), looks := true }, kinds := [], alts := [], laidByText := true, laidKinds := [.data, .data, .data, .data, .data], laidTests := true, laidLooks := .later }
def AuditBurstsCardSaid : Prop := Claim7.holds Tryz.pinned (.plain (OpenSpec.ofChange auditBurstsSpec)) auditBurstsCard

/-- THE TIED CARD OF 'ledgerlaw17.AuditNames'. -/
def auditNamesCard : Claim7 := { stood := { row := auditNamesRow, standIns := [], harness := (true, "b74b8056090c067643c2d0c1b3f12c998973060d7c8716e5a8b787a50f74c335"), looks := true }, kinds := [], alts := [], laidByText := true, laidKinds := [.data, .data], laidTests := true, laidLooks := .later }
def AuditNamesCardSaid : Prop := Claim7.holds Tryz.pinned (.plain (OpenSpec.ofChange auditNamesSpec)) auditNamesCard

/-- THE TIED CARD OF 'ledgerlaw17.AuditChecks'. -/
def auditChecksCard : Claim7 := { stood := { row := auditChecksRow, standIns := [], harness := (true, "b74b8056090c067643c2d0c1b3f12c998973060d7c8716e5a8b787a50f74c335"), looks := true }, kinds := [], alts := [], laidByText := true, laidKinds := [.data, .data, .data, .data, .data], laidTests := true, laidLooks := .later }
def AuditChecksCardSaid : Prop := Claim7.holds Tryz.pinned (.plain (OpenSpec.ofChange auditChecksSpec)) auditChecksCard

/-- THE TIED CARD OF 'ledgerlaw17.AuditOwners'. -/
def auditOwnersCard : Claim7 := { stood := { row := auditOwnersRow, standIns := [], harness := (true, "b74b8056090c067643c2d0c1b3f12c998973060d7c8716e5a8b787a50f74c335"), looks := true }, kinds := [], alts := [], laidByText := true, laidKinds := [.data, .data, .data, .data, .data], laidTests := true, laidLooks := .later }
def AuditOwnersCardSaid : Prop := Claim7.holds Tryz.pinned (.plain (OpenSpec.ofChange auditOwnersSpec)) auditOwnersCard

/-- THE SECOND FORM's CARD OF 'ledgerlaw17.AuditMade'. -/
def auditMadeUptoCard : Claim7 := { stood := { row := auditMadeUptoRow, standIns := [], harness := (true, "b74b8056090c067643c2d0c1b3f12c998973060d7c8716e5a8b787a50f74c335"), looks := true }, kinds := [], alts := [], laidByText := true, laidKinds := [.data, .data, .data, .data, .data], laidTests := true, laidLooks := .later }
def AuditMadeUptoCardSaid : Prop := Claim7.holds Tryz.pinned (.plain (OpenSpec.upto auditMadeSpec)) auditMadeUptoCard

/-- THE SECOND FORM's CARD OF 'ledgerlaw17.AuditBursts'. -/
def auditBurstsUptoCard : Claim7 := { stood := { row := auditBurstsUptoRow, standIns := [], harness := (true, "b74b8056090c067643c2d0c1b3f12c998973060d7c8716e5a8b787a50f74c335"), looks := true }, kinds := [], alts := [], laidByText := true, laidKinds := [.data, .data, .data, .data, .data], laidTests := true, laidLooks := .later }
def AuditBurstsUptoCardSaid : Prop := Claim7.holds Tryz.pinned (.plain (OpenSpec.upto auditBurstsSpec)) auditBurstsUptoCard

/-- THE SECOND FORM's CARD OF 'ledgerlaw17.AuditNames'. -/
def auditNamesUptoCard : Claim7 := { stood := { row := auditNamesUptoRow, standIns := [], harness := (true, "b74b8056090c067643c2d0c1b3f12c998973060d7c8716e5a8b787a50f74c335"), looks := true }, kinds := [], alts := [], laidByText := true, laidKinds := [.data, .data], laidTests := true, laidLooks := .later }
def AuditNamesUptoCardSaid : Prop := Claim7.holds Tryz.pinned (.plain (OpenSpec.upto auditNamesSpec)) auditNamesUptoCard

/-- THE SECOND FORM's CARD OF 'ledgerlaw17.AuditChecks'. -/
def auditChecksUptoCard : Claim7 := { stood := { row := auditChecksUptoRow, standIns := [], harness := (true, "b74b8056090c067643c2d0c1b3f12c998973060d7c8716e5a8b787a50f74c335"), looks := true }, kinds := [], alts := [], laidByText := true, laidKinds := [.data, .data, .data, .data, .data], laidTests := true, laidLooks := .later }
def AuditChecksUptoCardSaid : Prop := Claim7.holds Tryz.pinned (.plain (OpenSpec.upto auditChecksSpec)) auditChecksUptoCard

/-- THE SECOND FORM's CARD OF 'ledgerlaw17.AuditOwners'. -/
def auditOwnersUptoCard : Claim7 := { stood := { row := auditOwnersUptoRow, standIns := [], harness := (true, "b74b8056090c067643c2d0c1b3f12c998973060d7c8716e5a8b787a50f74c335"), looks := true }, kinds := [], alts := [], laidByText := true, laidKinds := [.data, .data, .data, .data, .data], laidTests := true, laidLooks := .later }
def AuditOwnersUptoCardSaid : Prop := Claim7.holds Tryz.pinned (.plain (OpenSpec.upto auditOwnersSpec)) auditOwnersUptoCard
end Rows
end Go.Proofs.YtppmpdjlmgfdkaaGreatDoor
