/-
  No cell of these rows narrows 'for every input' (looked for: loops, veiled, ifaces, maps, wideKeys, modest, calm, conditions, laid).
  DERIVED. THE GIVEN ROWS OF THIS SEAT. 6 by the template 'for every input the law returns true; each argument reads behind the call as it read before'; 0 by the template 'total and deterministic' (their statements: YtbbkpngcichdcaaTotals.lean).
  GIVEN WITH THE SEED: the statements are not yours to turn. If you find one false, say at which input.
  Laid BY PROGRAM, IN A SANDBOX (cutbox-rows.mjs): the forced cells as the released guide's own fill.sh prints them over the translation 01f86786943996ed… (all of the seat's roots in one cut). By AI agents, Wed Nov 11 2026. No macro, syntax, notation, axiom, sorry.
-/
import Derived.Test.YtbbkpngcichdcaaChecked
import GoSem.Claim
import GoSem.ClaimJoined
import GoSem.ClaimMapViews
import Derived.JoinedTies
import Derived.KernelRfl
namespace Go.Proofs.Ytbbkpngcichdcaa
/- THE CELL 'sum', in the pinned program and in every row, IS THE sha256 OF THE DUMP (.gsa) THAT YtbbkpngcichdcaaProg.lean LOADS. Nothing in Lean hashes anything: it is a label: what it is worth is what the hold of that sum in a sandbox is worth. -/
noncomputable def Try.pinned : Pinned := { name := "ytbbkpngcichdcaa", sum := "01f86786943996edbff2c247454f066552c1def5254e85a647b373a7ab7720ca", checked := Try.checked }
namespace Rows
def none {H : Type} : Left H := { results := [], args := [] }

/-- 'ledgerlaw22.WitnessNames': WHATEVER THE INPUT: true; the input reads as it did. -/
def witnessNamesSpec : ChangeSpec := { name := "witnessNames", fn := fun _ => fun
  | [] => { results := [.lit (.bool true)], args := [] }
  | _ => none }
def witnessNamesRow : OpenClaim := { program := "ytbbkpngcichdcaa", sum := "01f86786943996edbff2c247454f066552c1def5254e85a647b373a7ab7720ca", func := "ledger/ledgerlaw22.WitnessNames", spec := "witnessNames", plainKeys := false, apart := false }
def WitnessNamesSaid : Prop := witnessNamesRow.holds Try.pinned (OpenSpec.ofChange witnessNamesSpec)

/-- ITS FALSE NEIGHBOUR: 'it returns false'. Refute it at one input. -/
def witnessNamesWrong : ChangeSpec := { name := "witnessNames", fn := fun _ => fun
  | [] => { results := [.lit (.bool false)], args := [] }
  | _ => none }
def WitnessNamesWrongFalsely : Prop := witnessNamesRow.holds Try.pinned (OpenSpec.ofChange witnessNamesWrong)

/-- 'ledgerlaw7.CacheNames': WHATEVER THE INPUT: true; the input reads as it did. -/
def cacheNamesSpec : ChangeSpec := { name := "cacheNames", fn := fun _ => fun
  | [] => { results := [.lit (.bool true)], args := [] }
  | _ => none }
def cacheNamesRow : OpenClaim := { program := "ytbbkpngcichdcaa", sum := "01f86786943996edbff2c247454f066552c1def5254e85a647b373a7ab7720ca", func := "ledger/ledgerlaw7.CacheNames", spec := "cacheNames", plainKeys := false, apart := false }
def CacheNamesSaid : Prop := cacheNamesRow.holds Try.pinned (OpenSpec.ofChange cacheNamesSpec)

/-- ITS FALSE NEIGHBOUR: 'it returns false'. Refute it at one input. -/
def cacheNamesWrong : ChangeSpec := { name := "cacheNames", fn := fun _ => fun
  | [] => { results := [.lit (.bool false)], args := [] }
  | _ => none }
def CacheNamesWrongFalsely : Prop := cacheNamesRow.holds Try.pinned (OpenSpec.ofChange cacheNamesWrong)

/-- 'ledgerlaw7.CacheRoom': WHATEVER THE INPUT: true; the input reads as it did. -/
def cacheRoomSpec : ChangeSpec := { name := "cacheRoom", fn := fun _ => fun
  | [d1, d2] => { results := [.lit (.bool true)], args := [d1, d2] }
  | _ => none }
def cacheRoomRow : OpenClaim := { program := "ytbbkpngcichdcaa", sum := "01f86786943996edbff2c247454f066552c1def5254e85a647b373a7ab7720ca", func := "ledger/ledgerlaw7.CacheRoom", spec := "cacheRoom", plainKeys := false, apart := false }
def CacheRoomSaid : Prop := cacheRoomRow.holds Try.pinned (OpenSpec.ofChange cacheRoomSpec)

/-- ITS FALSE NEIGHBOUR: 'it returns false'. Refute it at one input. -/
def cacheRoomWrong : ChangeSpec := { name := "cacheRoom", fn := fun _ => fun
  | [d1, d2] => { results := [.lit (.bool false)], args := [d1, d2] }
  | _ => none }
def CacheRoomWrongFalsely : Prop := cacheRoomRow.holds Try.pinned (OpenSpec.ofChange cacheRoomWrong)

/-- 'ledgerlaw7.CachePlays': WHATEVER THE INPUT: true; the input reads as it did. -/
def cachePlaysSpec : ChangeSpec := { name := "cachePlays", fn := fun _ => fun
  | [d1, d2] => { results := [.lit (.bool true)], args := [d1, d2] }
  | _ => none }
def cachePlaysRow : OpenClaim := { program := "ytbbkpngcichdcaa", sum := "01f86786943996edbff2c247454f066552c1def5254e85a647b373a7ab7720ca", func := "ledger/ledgerlaw7.CachePlays", spec := "cachePlays", plainKeys := false, apart := false }
def CachePlaysSaid : Prop := cachePlaysRow.holds Try.pinned (OpenSpec.ofChange cachePlaysSpec)

/-- ITS FALSE NEIGHBOUR: 'it returns false'. Refute it at one input. -/
def cachePlaysWrong : ChangeSpec := { name := "cachePlays", fn := fun _ => fun
  | [d1, d2] => { results := [.lit (.bool false)], args := [d1, d2] }
  | _ => none }
def CachePlaysWrongFalsely : Prop := cachePlaysRow.holds Try.pinned (OpenSpec.ofChange cachePlaysWrong)

/-- 'ledgerlaw7.CacheTwins': WHATEVER THE INPUT: true; the input reads as it did. -/
def cacheTwinsSpec : ChangeSpec := { name := "cacheTwins", fn := fun _ => fun
  | [d1, d2] => { results := [.lit (.bool true)], args := [d1, d2] }
  | _ => none }
def cacheTwinsRow : OpenClaim := { program := "ytbbkpngcichdcaa", sum := "01f86786943996edbff2c247454f066552c1def5254e85a647b373a7ab7720ca", func := "ledger/ledgerlaw7.CacheTwins", spec := "cacheTwins", plainKeys := false, apart := false }
def CacheTwinsSaid : Prop := cacheTwinsRow.holds Try.pinned (OpenSpec.ofChange cacheTwinsSpec)

/-- ITS FALSE NEIGHBOUR: 'it returns false'. Refute it at one input. -/
def cacheTwinsWrong : ChangeSpec := { name := "cacheTwins", fn := fun _ => fun
  | [d1, d2] => { results := [.lit (.bool false)], args := [d1, d2] }
  | _ => none }
def CacheTwinsWrongFalsely : Prop := cacheTwinsRow.holds Try.pinned (OpenSpec.ofChange cacheTwinsWrong)

/-- 'ledgerlaw7.CacheNested': WHATEVER THE INPUT: true; the input reads as it did. -/
def cacheNestedSpec : ChangeSpec := { name := "cacheNested", fn := fun _ => fun
  | [d1, d2, d3] => { results := [.lit (.bool true)], args := [d1, d2, d3] }
  | _ => none }
def cacheNestedRow : OpenClaim := { program := "ytbbkpngcichdcaa", sum := "01f86786943996edbff2c247454f066552c1def5254e85a647b373a7ab7720ca", func := "ledger/ledgerlaw7.CacheNested", spec := "cacheNested", plainKeys := false, apart := false }
def CacheNestedSaid : Prop := cacheNestedRow.holds Try.pinned (OpenSpec.ofChange cacheNestedSpec)

/-- ITS FALSE NEIGHBOUR: 'it returns false'. Refute it at one input. -/
def cacheNestedWrong : ChangeSpec := { name := "cacheNested", fn := fun _ => fun
  | [d1, d2, d3] => { results := [.lit (.bool false)], args := [d1, d2, d3] }
  | _ => none }
def CacheNestedWrongFalsely : Prop := cacheNestedRow.holds Try.pinned (OpenSpec.ofChange cacheNestedWrong)

/- THE SECOND FORM. 'bulk': how many values and letters a reading holds, each counted each time it is reached (what is shared counts as often as it is met; a slice's spare places count too). A statement '..UptoSaid' is the law's where the arguments, and the package variables that the reading takes, are together of bulk at most 1048576: NARROWER than '..Said'. Prove '..Said' where nothing that the law and all that it calls make is longer than what came in: it says more and counts as full. Else prove '..UptoSaid'. A law counts once. -/
mutual
def uptoBulk {H : Type} : DataW H → Nat
  | .lit (.string bytes) => bytes.length + 1
  | .lit _ => 1
  | .nil => 1
  | .ptr d => uptoBulk d + 1
  | .slice elems spare => uptoBulkAll elems + uptoBulkAll spare + 1
  | .agg parts => uptoBulkAll parts + 1
  | .iface _ d => uptoBulk d + 1
  | .map entries => uptoBulkEntries entries + 1
  | .held _ => 1
def uptoBulkAll {H : Type} : List (DataW H) → Nat
  | [] => 0
  | d :: r => uptoBulk d + uptoBulkAll r
def uptoBulkEntries {H : Type} : List (Lit × DataW H) → Nat
  | [] => 0
  | x :: r => uptoBulkEntry x + uptoBulkEntries r
def uptoBulkEntry {H : Type} : Lit × DataW H → Nat
  | (.string bytes, d) => bytes.length + uptoBulk d + 1
  | (_, d) => uptoBulk d + 1
 end
def uptoSmall : (H : Type) → List (DataW H) → Bool := fun _ ds => decide (uptoBulkAll ds ≤ 1048576)
def OpenSpec.upto (s : _root_.Go.ChangeSpec) : _root_.Go.OpenSpec := { _root_.Go.OpenSpec.ofChange s with cond := some uptoSmall }

/-- 'ledgerlaw22.WitnessNames', WHERE WHAT IT READS IS OF BULK AT MOST 1048576: true; the input reads as it did. -/
def witnessNamesUptoRow : OpenClaim := { program := "ytbbkpngcichdcaa", sum := "01f86786943996edbff2c247454f066552c1def5254e85a647b373a7ab7720ca", func := "ledger/ledgerlaw22.WitnessNames", spec := "witnessNames", plainKeys := false, apart := false, narrowed := true }
def WitnessNamesUptoSaid : Prop := witnessNamesUptoRow.holds Try.pinned (OpenSpec.upto witnessNamesSpec)

/-- 'ledgerlaw7.CacheNames', WHERE WHAT IT READS IS OF BULK AT MOST 1048576: true; the input reads as it did. -/
def cacheNamesUptoRow : OpenClaim := { program := "ytbbkpngcichdcaa", sum := "01f86786943996edbff2c247454f066552c1def5254e85a647b373a7ab7720ca", func := "ledger/ledgerlaw7.CacheNames", spec := "cacheNames", plainKeys := false, apart := false, narrowed := true }
def CacheNamesUptoSaid : Prop := cacheNamesUptoRow.holds Try.pinned (OpenSpec.upto cacheNamesSpec)

/-- 'ledgerlaw7.CacheRoom', WHERE WHAT IT READS IS OF BULK AT MOST 1048576: true; the input reads as it did. -/
def cacheRoomUptoRow : OpenClaim := { program := "ytbbkpngcichdcaa", sum := "01f86786943996edbff2c247454f066552c1def5254e85a647b373a7ab7720ca", func := "ledger/ledgerlaw7.CacheRoom", spec := "cacheRoom", plainKeys := false, apart := false, narrowed := true }
def CacheRoomUptoSaid : Prop := cacheRoomUptoRow.holds Try.pinned (OpenSpec.upto cacheRoomSpec)

/-- 'ledgerlaw7.CachePlays', WHERE WHAT IT READS IS OF BULK AT MOST 1048576: true; the input reads as it did. -/
def cachePlaysUptoRow : OpenClaim := { program := "ytbbkpngcichdcaa", sum := "01f86786943996edbff2c247454f066552c1def5254e85a647b373a7ab7720ca", func := "ledger/ledgerlaw7.CachePlays", spec := "cachePlays", plainKeys := false, apart := false, narrowed := true }
def CachePlaysUptoSaid : Prop := cachePlaysUptoRow.holds Try.pinned (OpenSpec.upto cachePlaysSpec)

/-- 'ledgerlaw7.CacheTwins', WHERE WHAT IT READS IS OF BULK AT MOST 1048576: true; the input reads as it did. -/
def cacheTwinsUptoRow : OpenClaim := { program := "ytbbkpngcichdcaa", sum := "01f86786943996edbff2c247454f066552c1def5254e85a647b373a7ab7720ca", func := "ledger/ledgerlaw7.CacheTwins", spec := "cacheTwins", plainKeys := false, apart := false, narrowed := true }
def CacheTwinsUptoSaid : Prop := cacheTwinsUptoRow.holds Try.pinned (OpenSpec.upto cacheTwinsSpec)

/-- 'ledgerlaw7.CacheNested', WHERE WHAT IT READS IS OF BULK AT MOST 1048576: true; the input reads as it did. -/
def cacheNestedUptoRow : OpenClaim := { program := "ytbbkpngcichdcaa", sum := "01f86786943996edbff2c247454f066552c1def5254e85a647b373a7ab7720ca", func := "ledger/ledgerlaw7.CacheNested", spec := "cacheNested", plainKeys := false, apart := false, narrowed := true }
def CacheNestedUptoSaid : Prop := cacheNestedUptoRow.holds Try.pinned (OpenSpec.upto cacheNestedSpec)

end Rows
end Go.Proofs.Ytbbkpngcichdcaa
