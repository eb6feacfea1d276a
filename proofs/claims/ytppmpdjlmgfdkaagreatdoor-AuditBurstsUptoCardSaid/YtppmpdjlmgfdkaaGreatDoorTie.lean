/-
  DERIVED. GIVEN WITH THE SEED: THE PROGRAM's TIES (one call each: nine closed facts by the kernel) AND EACH ROW's TIE, after the 31st guide's Derived/Test/Toyas{Tie, Card}.lean. No idea stands in it: it is a product of the set-up. Laid BY PROGRAM, IN A SANDBOX (cutbox-door.mjs). By AI agents, Wed Nov 11 2026. No macro, syntax, notation, axiom, sorry.
-/
import Derived.Test.YtppmpdjlmgfdkaaGreatDoorRows
import Derived.LaidByTextLater
import Derived.SevenTiedAt
import Derived.LaidSub
import Derived.LaidOnce
namespace Go.Proofs.YtppmpdjlmgfdkaaGreatDoor
open Go
set_option maxRecDepth 100000
theorem seatTie1 : Tryz.prog.laidByTextLater [("ledger/ledgerref1.first", Rows.laid_ledger_ledgerref1_first), ("ledger/ledgerref1.consts", Rows.laid_ledger_ledgerref1_consts), ("ledger/ledgerref2.divisor", Rows.laid_ledger_ledgerref2_divisor), ("ledger/digest.begin", Rows.laid_ledger_digest_begin), ("ledger/digest.round", Rows.laid_ledger_digest_round)] [.data, .data, .data, .data, .data] true :=
  Program.laidByTextLater_by_one 44 8 65 (by kernel_rfl) (by kernel_rfl) (by kernel_rfl) (by kernel_rfl) (by kernel_rfl) (by kernel_rfl) (fun _ _ => by kernel_rfl)
theorem noOwnUnsafe : Tryz.pinned.checked.prog.headLifts.contains "ownunsafe" = false := by kernel_rfl
theorem tie : Tryz.prog.laidByTextLater [("ledger/ledgerref1.first", Rows.laid_ledger_ledgerref1_first), ("ledger/ledgerref1.consts", Rows.laid_ledger_ledgerref1_consts), ("ledger/ledgerref2.divisor", Rows.laid_ledger_ledgerref2_divisor), ("ledger/digest.begin", Rows.laid_ledger_digest_begin), ("ledger/digest.round", Rows.laid_ledger_digest_round)] [.data, .data, .data, .data, .data] true :=
  Program.laidByTextLater.sub seatTie1 ["ledger/ledgerref1.first", "ledger/ledgerref1.consts", "ledger/ledgerref2.divisor", "ledger/digest.begin", "ledger/digest.round"] (by kernel_rfl) (by kernel_rfl)
theorem auditMade_row_tie : Rows.auditMadeRow.laidByTextAt .later Tryz.pinned [.data, .data, .data, .data, .data] true :=
  OpenClaim.laidByTextAt_later rfl rfl tie noOwnUnsafe
theorem auditBursts_row_tie : Rows.auditBurstsRow.laidByTextAt .later Tryz.pinned [.data, .data, .data, .data, .data] true :=
  OpenClaim.laidByTextAt_later rfl rfl tie noOwnUnsafe
theorem auditChecks_row_tie : Rows.auditChecksRow.laidByTextAt .later Tryz.pinned [.data, .data, .data, .data, .data] true :=
  OpenClaim.laidByTextAt_later rfl rfl tie noOwnUnsafe
theorem auditOwners_row_tie : Rows.auditOwnersRow.laidByTextAt .later Tryz.pinned [.data, .data, .data, .data, .data] true :=
  OpenClaim.laidByTextAt_later rfl rfl tie noOwnUnsafe
theorem tie2 : Tryz.prog.laidByTextLater [("ledger/digest.begin", Rows.laid_ledger_digest_begin), ("ledger/digest.round", Rows.laid_ledger_digest_round)] [.data, .data] true :=
  Program.laidByTextLater.sub seatTie1 ["ledger/digest.begin", "ledger/digest.round"] (by kernel_rfl) (by kernel_rfl)
theorem auditNames_row_tie : Rows.auditNamesRow.laidByTextAt .later Tryz.pinned [.data, .data] true :=
  OpenClaim.laidByTextAt_later rfl rfl tie2 noOwnUnsafe
theorem auditMadeUpto_row_tie : Rows.auditMadeUptoRow.laidByTextAt .later Tryz.pinned [.data, .data, .data, .data, .data] true :=
  OpenClaim.laidByTextAt_later rfl rfl tie noOwnUnsafe
theorem auditBurstsUpto_row_tie : Rows.auditBurstsUptoRow.laidByTextAt .later Tryz.pinned [.data, .data, .data, .data, .data] true :=
  OpenClaim.laidByTextAt_later rfl rfl tie noOwnUnsafe
theorem auditNamesUpto_row_tie : Rows.auditNamesUptoRow.laidByTextAt .later Tryz.pinned [.data, .data] true :=
  OpenClaim.laidByTextAt_later rfl rfl tie2 noOwnUnsafe
theorem auditChecksUpto_row_tie : Rows.auditChecksUptoRow.laidByTextAt .later Tryz.pinned [.data, .data, .data, .data, .data] true :=
  OpenClaim.laidByTextAt_later rfl rfl tie noOwnUnsafe
theorem auditOwnersUpto_row_tie : Rows.auditOwnersUptoRow.laidByTextAt .later Tryz.pinned [.data, .data, .data, .data, .data] true :=
  OpenClaim.laidByTextAt_later rfl rfl tie noOwnUnsafe
end Go.Proofs.YtppmpdjlmgfdkaaGreatDoor
