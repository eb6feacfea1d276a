/-
  Closed facts of the tables and functions of this seat, written by a program of mine (gentab.py).
-/
import Derived.Test.YtbbkpngcichdcaaLibK
import Derived.Test.YtbbkpngcichdcaaProg
namespace Go.V
open Go.Proofs
set_option maxRecDepth 100000
theorem Try.agg3 : aggO Try.prog 3 = some false := by kernel_rfl
theorem Try.sz3 : szO Try.prog 3 = some 1 := by kernel_rfl
theorem Try.arr3 : arrO Try.prog 3 = none := by kernel_rfl
theorem Try.slc3 : slcO Try.prog 3 = none := by kernel_rfl
theorem Try.int3 : intO Try.prog 3 = some .i64 := by kernel_rfl
theorem Try.str3 : strO Try.prog 3 = false := by kernel_rfl
theorem Try.map3 : mapO Try.prog 3 = none := by kernel_rfl
theorem Try.flat3 : flatT Try.prog 3 = true := by kernel_rfl
theorem Try.bool3 : boolT Try.prog 3 = false := by kernel_rfl
theorem Try.iface3 : ifaceT Try.prog 3 = false := by kernel_rfl
theorem Try.zero3 : zeroO Try.prog 3 = some (.int .i64 0) := by kernel_rfl
theorem Try.places3 : placesO Try.prog 3 = none := by kernel_rfl
theorem Try.agg4 : aggO Try.prog 4 = some false := by kernel_rfl
theorem Try.sz4 : szO Try.prog 4 = some 1 := by kernel_rfl
theorem Try.arr4 : arrO Try.prog 4 = none := by kernel_rfl
theorem Try.slc4 : slcO Try.prog 4 = none := by kernel_rfl
theorem Try.int4 : intO Try.prog 4 = none := by kernel_rfl
theorem Try.str4 : strO Try.prog 4 = false := by kernel_rfl
theorem Try.map4 : mapO Try.prog 4 = none := by kernel_rfl
theorem Try.flat4 : flatT Try.prog 4 = true := by kernel_rfl
theorem Try.bool4 : boolT Try.prog 4 = true := by kernel_rfl
theorem Try.iface4 : ifaceT Try.prog 4 = false := by kernel_rfl
theorem Try.zero4 : zeroO Try.prog 4 = some (.bool false) := by kernel_rfl
theorem Try.places4 : placesO Try.prog 4 = none := by kernel_rfl
theorem Try.agg5 : aggO Try.prog 5 = some false := by kernel_rfl
theorem Try.sz5 : szO Try.prog 5 = some 1 := by kernel_rfl
theorem Try.arr5 : arrO Try.prog 5 = none := by kernel_rfl
theorem Try.slc5 : slcO Try.prog 5 = none := by kernel_rfl
theorem Try.int5 : intO Try.prog 5 = some .u8 := by kernel_rfl
theorem Try.str5 : strO Try.prog 5 = false := by kernel_rfl
theorem Try.map5 : mapO Try.prog 5 = none := by kernel_rfl
theorem Try.flat5 : flatT Try.prog 5 = true := by kernel_rfl
theorem Try.bool5 : boolT Try.prog 5 = false := by kernel_rfl
theorem Try.iface5 : ifaceT Try.prog 5 = false := by kernel_rfl
theorem Try.zero5 : zeroO Try.prog 5 = some (.int .u8 0) := by kernel_rfl
theorem Try.places5 : placesO Try.prog 5 = none := by kernel_rfl
theorem Try.agg9 : aggO Try.prog 9 = some false := by kernel_rfl
theorem Try.sz9 : szO Try.prog 9 = some 1 := by kernel_rfl
theorem Try.arr9 : arrO Try.prog 9 = none := by kernel_rfl
theorem Try.slc9 : slcO Try.prog 9 = none := by kernel_rfl
theorem Try.int9 : intO Try.prog 9 = none := by kernel_rfl
theorem Try.str9 : strO Try.prog 9 = true := by kernel_rfl
theorem Try.map9 : mapO Try.prog 9 = none := by kernel_rfl
theorem Try.flat9 : flatT Try.prog 9 = true := by kernel_rfl
theorem Try.bool9 : boolT Try.prog 9 = false := by kernel_rfl
theorem Try.iface9 : ifaceT Try.prog 9 = false := by kernel_rfl
theorem Try.zero9 : zeroO Try.prog 9 = some (.string ByteArray.empty) := by kernel_rfl
theorem Try.places9 : placesO Try.prog 9 = none := by kernel_rfl
theorem Try.agg23 : aggO Try.prog 23 = some false := by kernel_rfl
theorem Try.sz23 : szO Try.prog 23 = some 1 := by kernel_rfl
theorem Try.arr23 : arrO Try.prog 23 = none := by kernel_rfl
theorem Try.slc23 : slcO Try.prog 23 = none := by kernel_rfl
theorem Try.int23 : intO Try.prog 23 = none := by kernel_rfl
theorem Try.str23 : strO Try.prog 23 = false := by kernel_rfl
theorem Try.map23 : mapO Try.prog 23 = none := by kernel_rfl
theorem Try.flat23 : flatT Try.prog 23 = false := by kernel_rfl
theorem Try.bool23 : boolT Try.prog 23 = false := by kernel_rfl
theorem Try.iface23 : ifaceT Try.prog 23 = false := by kernel_rfl
theorem Try.ptr23 : ptrO Try.prog 23 = some 17 := by kernel_rfl
theorem Try.zero23 : zeroO Try.prog 23 = some (.pointer none) := by kernel_rfl
theorem Try.places23 : placesO Try.prog 23 = none := by kernel_rfl
theorem Try.agg27 : aggO Try.prog 27 = some true := by kernel_rfl
theorem Try.sz27 : szO Try.prog 27 = some 5 := by kernel_rfl
theorem Try.arr27 : arrO Try.prog 27 = none := by kernel_rfl
theorem Try.slc27 : slcO Try.prog 27 = none := by kernel_rfl
theorem Try.int27 : intO Try.prog 27 = none := by kernel_rfl
theorem Try.str27 : strO Try.prog 27 = false := by kernel_rfl
theorem Try.map27 : mapO Try.prog 27 = none := by kernel_rfl
theorem Try.flat27 : flatT Try.prog 27 = false := by kernel_rfl
theorem Try.bool27 : boolT Try.prog 27 = false := by kernel_rfl
theorem Try.iface27 : ifaceT Try.prog 27 = false := by kernel_rfl
theorem Try.zero27 : zeroO Try.prog 27 = some (.agg #[.int .i64 0, .int .i64 0, .int .i64 0, .int .i64 0, .int .i64 0]) := by kernel_rfl
theorem Try.places27 : placesO Try.prog 27 = some [(0, 1), (1, 1), (2, 1), (3, 1), (4, 1)] := by kernel_rfl
theorem Try.agg29 : aggO Try.prog 29 = some false := by kernel_rfl
theorem Try.sz29 : szO Try.prog 29 = some 1 := by kernel_rfl
theorem Try.arr29 : arrO Try.prog 29 = none := by kernel_rfl
theorem Try.slc29 : slcO Try.prog 29 = some 3 := by kernel_rfl
theorem Try.int29 : intO Try.prog 29 = none := by kernel_rfl
theorem Try.str29 : strO Try.prog 29 = false := by kernel_rfl
theorem Try.map29 : mapO Try.prog 29 = none := by kernel_rfl
theorem Try.flat29 : flatT Try.prog 29 = false := by kernel_rfl
theorem Try.bool29 : boolT Try.prog 29 = false := by kernel_rfl
theorem Try.iface29 : ifaceT Try.prog 29 = false := by kernel_rfl
theorem Try.zero29 : zeroO Try.prog 29 = some (.slice none 0 0) := by kernel_rfl
theorem Try.places29 : placesO Try.prog 29 = none := by kernel_rfl
theorem Try.agg34 : aggO Try.prog 34 = some false := by kernel_rfl
theorem Try.sz34 : szO Try.prog 34 = some 1 := by kernel_rfl
theorem Try.arr34 : arrO Try.prog 34 = none := by kernel_rfl
theorem Try.slc34 : slcO Try.prog 34 = some 47 := by kernel_rfl
theorem Try.int34 : intO Try.prog 34 = none := by kernel_rfl
theorem Try.str34 : strO Try.prog 34 = false := by kernel_rfl
theorem Try.map34 : mapO Try.prog 34 = none := by kernel_rfl
theorem Try.flat34 : flatT Try.prog 34 = false := by kernel_rfl
theorem Try.bool34 : boolT Try.prog 34 = false := by kernel_rfl
theorem Try.iface34 : ifaceT Try.prog 34 = false := by kernel_rfl
theorem Try.zero34 : zeroO Try.prog 34 = some (.slice none 0 0) := by kernel_rfl
theorem Try.places34 : placesO Try.prog 34 = none := by kernel_rfl
theorem Try.agg36 : aggO Try.prog 36 = some false := by kernel_rfl
theorem Try.sz36 : szO Try.prog 36 = some 1 := by kernel_rfl
theorem Try.arr36 : arrO Try.prog 36 = none := by kernel_rfl
theorem Try.slc36 : slcO Try.prog 36 = some 23 := by kernel_rfl
theorem Try.int36 : intO Try.prog 36 = none := by kernel_rfl
theorem Try.str36 : strO Try.prog 36 = false := by kernel_rfl
theorem Try.map36 : mapO Try.prog 36 = none := by kernel_rfl
theorem Try.flat36 : flatT Try.prog 36 = false := by kernel_rfl
theorem Try.bool36 : boolT Try.prog 36 = false := by kernel_rfl
theorem Try.iface36 : ifaceT Try.prog 36 = false := by kernel_rfl
theorem Try.zero36 : zeroO Try.prog 36 = some (.slice none 0 0) := by kernel_rfl
theorem Try.places36 : placesO Try.prog 36 = none := by kernel_rfl
theorem Try.agg37 : aggO Try.prog 37 = some false := by kernel_rfl
theorem Try.sz37 : szO Try.prog 37 = some 1 := by kernel_rfl
theorem Try.arr37 : arrO Try.prog 37 = none := by kernel_rfl
theorem Try.slc37 : slcO Try.prog 37 = some 72 := by kernel_rfl
theorem Try.int37 : intO Try.prog 37 = none := by kernel_rfl
theorem Try.str37 : strO Try.prog 37 = false := by kernel_rfl
theorem Try.map37 : mapO Try.prog 37 = none := by kernel_rfl
theorem Try.flat37 : flatT Try.prog 37 = false := by kernel_rfl
theorem Try.bool37 : boolT Try.prog 37 = false := by kernel_rfl
theorem Try.iface37 : ifaceT Try.prog 37 = false := by kernel_rfl
theorem Try.zero37 : zeroO Try.prog 37 = some (.slice none 0 0) := by kernel_rfl
theorem Try.places37 : placesO Try.prog 37 = none := by kernel_rfl
theorem Try.agg38 : aggO Try.prog 38 = some false := by kernel_rfl
theorem Try.sz38 : szO Try.prog 38 = some 1 := by kernel_rfl
theorem Try.arr38 : arrO Try.prog 38 = none := by kernel_rfl
theorem Try.slc38 : slcO Try.prog 38 = some 79 := by kernel_rfl
theorem Try.int38 : intO Try.prog 38 = none := by kernel_rfl
theorem Try.str38 : strO Try.prog 38 = false := by kernel_rfl
theorem Try.map38 : mapO Try.prog 38 = none := by kernel_rfl
theorem Try.flat38 : flatT Try.prog 38 = false := by kernel_rfl
theorem Try.bool38 : boolT Try.prog 38 = false := by kernel_rfl
theorem Try.iface38 : ifaceT Try.prog 38 = false := by kernel_rfl
theorem Try.zero38 : zeroO Try.prog 38 = some (.slice none 0 0) := by kernel_rfl
theorem Try.places38 : placesO Try.prog 38 = none := by kernel_rfl
theorem Try.agg39 : aggO Try.prog 39 = some false := by kernel_rfl
theorem Try.sz39 : szO Try.prog 39 = some 1 := by kernel_rfl
theorem Try.arr39 : arrO Try.prog 39 = none := by kernel_rfl
theorem Try.slc39 : slcO Try.prog 39 = some 29 := by kernel_rfl
theorem Try.int39 : intO Try.prog 39 = none := by kernel_rfl
theorem Try.str39 : strO Try.prog 39 = false := by kernel_rfl
theorem Try.map39 : mapO Try.prog 39 = none := by kernel_rfl
theorem Try.flat39 : flatT Try.prog 39 = false := by kernel_rfl
theorem Try.bool39 : boolT Try.prog 39 = false := by kernel_rfl
theorem Try.iface39 : ifaceT Try.prog 39 = false := by kernel_rfl
theorem Try.zero39 : zeroO Try.prog 39 = some (.slice none 0 0) := by kernel_rfl
theorem Try.places39 : placesO Try.prog 39 = none := by kernel_rfl
theorem Try.agg41 : aggO Try.prog 41 = some true := by kernel_rfl
theorem Try.sz41 : szO Try.prog 41 = some 7 := by kernel_rfl
theorem Try.arr41 : arrO Try.prog 41 = none := by kernel_rfl
theorem Try.slc41 : slcO Try.prog 41 = none := by kernel_rfl
theorem Try.int41 : intO Try.prog 41 = none := by kernel_rfl
theorem Try.str41 : strO Try.prog 41 = false := by kernel_rfl
theorem Try.map41 : mapO Try.prog 41 = none := by kernel_rfl
theorem Try.flat41 : flatT Try.prog 41 = false := by kernel_rfl
theorem Try.bool41 : boolT Try.prog 41 = false := by kernel_rfl
theorem Try.iface41 : ifaceT Try.prog 41 = false := by kernel_rfl
theorem Try.zero41 : zeroO Try.prog 41 = some (.agg #[.slice none 0 0, .int .i64 0, .int .i64 0, .slice none 0 0, .slice none 0 0, .int .i64 0, .bool false]) := by kernel_rfl
theorem Try.places41 : placesO Try.prog 41 = some [(0, 1), (1, 1), (2, 1), (3, 1), (4, 1), (5, 1), (6, 1)] := by kernel_rfl
theorem Try.agg43 : aggO Try.prog 43 = some true := by kernel_rfl
theorem Try.sz43 : szO Try.prog 43 = some 9 := by kernel_rfl
theorem Try.arr43 : arrO Try.prog 43 = none := by kernel_rfl
theorem Try.slc43 : slcO Try.prog 43 = none := by kernel_rfl
theorem Try.int43 : intO Try.prog 43 = none := by kernel_rfl
theorem Try.str43 : strO Try.prog 43 = false := by kernel_rfl
theorem Try.map43 : mapO Try.prog 43 = none := by kernel_rfl
theorem Try.flat43 : flatT Try.prog 43 = false := by kernel_rfl
theorem Try.bool43 : boolT Try.prog 43 = false := by kernel_rfl
theorem Try.iface43 : ifaceT Try.prog 43 = false := by kernel_rfl
theorem Try.zero43 : zeroO Try.prog 43 = some (.agg #[.slice none 0 0, .slice none 0 0, .slice none 0 0, .int .i64 0, .int .i64 0, .slice none 0 0, .slice none 0 0, .int .i64 0, .bool false]) := by kernel_rfl
theorem Try.places43 : placesO Try.prog 43 = some [(0, 1), (1, 1), (2, 7)] := by kernel_rfl
theorem Try.agg47 : aggO Try.prog 47 = some true := by kernel_rfl
theorem Try.sz47 : szO Try.prog 47 = some 4 := by kernel_rfl
theorem Try.arr47 : arrO Try.prog 47 = none := by kernel_rfl
theorem Try.slc47 : slcO Try.prog 47 = none := by kernel_rfl
theorem Try.int47 : intO Try.prog 47 = none := by kernel_rfl
theorem Try.str47 : strO Try.prog 47 = false := by kernel_rfl
theorem Try.map47 : mapO Try.prog 47 = none := by kernel_rfl
theorem Try.flat47 : flatT Try.prog 47 = false := by kernel_rfl
theorem Try.bool47 : boolT Try.prog 47 = false := by kernel_rfl
theorem Try.iface47 : ifaceT Try.prog 47 = false := by kernel_rfl
theorem Try.zero47 : zeroO Try.prog 47 = some (.agg #[.int .i64 0, .int .i64 0, .int .i64 0, .int .i64 0]) := by kernel_rfl
theorem Try.places47 : placesO Try.prog 47 = some [(0, 1), (1, 1), (2, 1), (3, 1)] := by kernel_rfl
theorem Try.agg49 : aggO Try.prog 49 = some false := by kernel_rfl
theorem Try.sz49 : szO Try.prog 49 = some 1 := by kernel_rfl
theorem Try.arr49 : arrO Try.prog 49 = none := by kernel_rfl
theorem Try.slc49 : slcO Try.prog 49 = none := by kernel_rfl
theorem Try.int49 : intO Try.prog 49 = none := by kernel_rfl
theorem Try.str49 : strO Try.prog 49 = false := by kernel_rfl
theorem Try.map49 : mapO Try.prog 49 = none := by kernel_rfl
theorem Try.flat49 : flatT Try.prog 49 = false := by kernel_rfl
theorem Try.bool49 : boolT Try.prog 49 = false := by kernel_rfl
theorem Try.iface49 : ifaceT Try.prog 49 = false := by kernel_rfl
theorem Try.ptr49 : ptrO Try.prog 49 = some 79 := by kernel_rfl
theorem Try.zero49 : zeroO Try.prog 49 = some (.pointer none) := by kernel_rfl
theorem Try.places49 : placesO Try.prog 49 = none := by kernel_rfl
theorem Try.agg52 : aggO Try.prog 52 = some true := by kernel_rfl
theorem Try.sz52 : szO Try.prog 52 = some 32 := by kernel_rfl
theorem Try.arr52 : arrO Try.prog 52 = some (32, 5) := by kernel_rfl
theorem Try.slc52 : slcO Try.prog 52 = none := by kernel_rfl
theorem Try.int52 : intO Try.prog 52 = none := by kernel_rfl
theorem Try.str52 : strO Try.prog 52 = false := by kernel_rfl
theorem Try.map52 : mapO Try.prog 52 = none := by kernel_rfl
theorem Try.flat52 : flatT Try.prog 52 = false := by kernel_rfl
theorem Try.bool52 : boolT Try.prog 52 = false := by kernel_rfl
theorem Try.iface52 : ifaceT Try.prog 52 = false := by kernel_rfl
theorem Try.zero52 : zeroO Try.prog 52 = some (.agg #[.int .u8 0, .int .u8 0, .int .u8 0, .int .u8 0, .int .u8 0, .int .u8 0, .int .u8 0, .int .u8 0, .int .u8 0, .int .u8 0, .int .u8 0, .int .u8 0, .int .u8 0, .int .u8 0, .int .u8 0, .int .u8 0, .int .u8 0, .int .u8 0, .int .u8 0, .int .u8 0, .int .u8 0, .int .u8 0, .int .u8 0, .int .u8 0, .int .u8 0, .int .u8 0, .int .u8 0, .int .u8 0, .int .u8 0, .int .u8 0, .int .u8 0, .int .u8 0]) := by kernel_rfl
theorem Try.places52 : placesO Try.prog 52 = none := by kernel_rfl
theorem Try.agg58 : aggO Try.prog 58 = some false := by kernel_rfl
theorem Try.sz58 : szO Try.prog 58 = some 1 := by kernel_rfl
theorem Try.arr58 : arrO Try.prog 58 = none := by kernel_rfl
theorem Try.slc58 : slcO Try.prog 58 = some 52 := by kernel_rfl
theorem Try.int58 : intO Try.prog 58 = none := by kernel_rfl
theorem Try.str58 : strO Try.prog 58 = false := by kernel_rfl
theorem Try.map58 : mapO Try.prog 58 = none := by kernel_rfl
theorem Try.flat58 : flatT Try.prog 58 = false := by kernel_rfl
theorem Try.bool58 : boolT Try.prog 58 = false := by kernel_rfl
theorem Try.iface58 : ifaceT Try.prog 58 = false := by kernel_rfl
theorem Try.zero58 : zeroO Try.prog 58 = some (.slice none 0 0) := by kernel_rfl
theorem Try.places58 : placesO Try.prog 58 = none := by kernel_rfl
theorem Try.agg63 : aggO Try.prog 63 = some false := by kernel_rfl
theorem Try.sz63 : szO Try.prog 63 = some 1 := by kernel_rfl
theorem Try.arr63 : arrO Try.prog 63 = none := by kernel_rfl
theorem Try.slc63 : slcO Try.prog 63 = none := by kernel_rfl
theorem Try.int63 : intO Try.prog 63 = none := by kernel_rfl
theorem Try.str63 : strO Try.prog 63 = false := by kernel_rfl
theorem Try.map63 : mapO Try.prog 63 = some (3, 64) := by kernel_rfl
theorem Try.flat63 : flatT Try.prog 63 = false := by kernel_rfl
theorem Try.bool63 : boolT Try.prog 63 = false := by kernel_rfl
theorem Try.iface63 : ifaceT Try.prog 63 = false := by kernel_rfl
theorem Try.zero63 : zeroO Try.prog 63 = some (.map none) := by kernel_rfl
theorem Try.places63 : placesO Try.prog 63 = none := by kernel_rfl
theorem Try.agg64 : aggO Try.prog 64 = some false := by kernel_rfl
theorem Try.sz64 : szO Try.prog 64 = some 1 := by kernel_rfl
theorem Try.arr64 : arrO Try.prog 64 = none := by kernel_rfl
theorem Try.slc64 : slcO Try.prog 64 = none := by kernel_rfl
theorem Try.int64 : intO Try.prog 64 = none := by kernel_rfl
theorem Try.str64 : strO Try.prog 64 = false := by kernel_rfl
theorem Try.map64 : mapO Try.prog 64 = none := by kernel_rfl
theorem Try.flat64 : flatT Try.prog 64 = false := by kernel_rfl
theorem Try.bool64 : boolT Try.prog 64 = false := by kernel_rfl
theorem Try.iface64 : ifaceT Try.prog 64 = false := by kernel_rfl
theorem Try.ptr64 : ptrO Try.prog 64 = some 5 := by kernel_rfl
theorem Try.zero64 : zeroO Try.prog 64 = some (.pointer none) := by kernel_rfl
theorem Try.places64 : placesO Try.prog 64 = none := by kernel_rfl
theorem Try.agg66 : aggO Try.prog 66 = some true := by kernel_rfl
theorem Try.sz66 : szO Try.prog 66 = some 5 := by kernel_rfl
theorem Try.arr66 : arrO Try.prog 66 = none := by kernel_rfl
theorem Try.slc66 : slcO Try.prog 66 = none := by kernel_rfl
theorem Try.int66 : intO Try.prog 66 = none := by kernel_rfl
theorem Try.str66 : strO Try.prog 66 = false := by kernel_rfl
theorem Try.map66 : mapO Try.prog 66 = none := by kernel_rfl
theorem Try.flat66 : flatT Try.prog 66 = false := by kernel_rfl
theorem Try.bool66 : boolT Try.prog 66 = false := by kernel_rfl
theorem Try.iface66 : ifaceT Try.prog 66 = false := by kernel_rfl
theorem Try.zero66 : zeroO Try.prog 66 = some (.agg #[.int .i64 0, .int .i64 0, .bool false, .pointer none, .pointer none]) := by kernel_rfl
theorem Try.places66 : placesO Try.prog 66 = some [(0, 1), (1, 1), (2, 1), (3, 1), (4, 1)] := by kernel_rfl
theorem Try.agg68 : aggO Try.prog 68 = some true := by kernel_rfl
theorem Try.sz68 : szO Try.prog 68 = some 6 := by kernel_rfl
theorem Try.arr68 : arrO Try.prog 68 = none := by kernel_rfl
theorem Try.slc68 : slcO Try.prog 68 = none := by kernel_rfl
theorem Try.int68 : intO Try.prog 68 = none := by kernel_rfl
theorem Try.str68 : strO Try.prog 68 = false := by kernel_rfl
theorem Try.map68 : mapO Try.prog 68 = none := by kernel_rfl
theorem Try.flat68 : flatT Try.prog 68 = false := by kernel_rfl
theorem Try.bool68 : boolT Try.prog 68 = false := by kernel_rfl
theorem Try.iface68 : ifaceT Try.prog 68 = false := by kernel_rfl
theorem Try.zero68 : zeroO Try.prog 68 = some (.agg #[.int .i64 0, .int .i64 0, .bool false, .pointer none, .pointer none, .int .i64 0]) := by kernel_rfl
theorem Try.places68 : placesO Try.prog 68 = some [(0, 5), (5, 1)] := by kernel_rfl
theorem Try.agg70 : aggO Try.prog 70 = some true := by kernel_rfl
theorem Try.sz70 : szO Try.prog 70 = some 17 := by kernel_rfl
theorem Try.arr70 : arrO Try.prog 70 = none := by kernel_rfl
theorem Try.slc70 : slcO Try.prog 70 = none := by kernel_rfl
theorem Try.int70 : intO Try.prog 70 = none := by kernel_rfl
theorem Try.str70 : strO Try.prog 70 = false := by kernel_rfl
theorem Try.map70 : mapO Try.prog 70 = none := by kernel_rfl
theorem Try.flat70 : flatT Try.prog 70 = false := by kernel_rfl
theorem Try.bool70 : boolT Try.prog 70 = false := by kernel_rfl
theorem Try.iface70 : ifaceT Try.prog 70 = false := by kernel_rfl
theorem Try.zero70 : zeroO Try.prog 70 = some (.agg #[.int .i64 0, .map none, .int .i64 0, .int .i64 0, .bool false, .pointer none, .pointer none, .int .i64 0, .int .i64 0, .int .i64 0, .bool false, .pointer none, .pointer none, .int .i64 0, .int .i64 0, .int .i64 0, .int .i64 0]) := by kernel_rfl
theorem Try.places70 : placesO Try.prog 70 = some [(0, 1), (1, 1), (2, 6), (8, 6), (14, 1), (15, 1), (16, 1)] := by kernel_rfl
theorem Try.agg72 : aggO Try.prog 72 = some false := by kernel_rfl
theorem Try.sz72 : szO Try.prog 72 = some 1 := by kernel_rfl
theorem Try.arr72 : arrO Try.prog 72 = none := by kernel_rfl
theorem Try.slc72 : slcO Try.prog 72 = none := by kernel_rfl
theorem Try.int72 : intO Try.prog 72 = none := by kernel_rfl
theorem Try.str72 : strO Try.prog 72 = false := by kernel_rfl
theorem Try.map72 : mapO Try.prog 72 = none := by kernel_rfl
theorem Try.flat72 : flatT Try.prog 72 = false := by kernel_rfl
theorem Try.bool72 : boolT Try.prog 72 = false := by kernel_rfl
theorem Try.iface72 : ifaceT Try.prog 72 = false := by kernel_rfl
theorem Try.ptr72 : ptrO Try.prog 72 = some 6 := by kernel_rfl
theorem Try.zero72 : zeroO Try.prog 72 = some (.pointer none) := by kernel_rfl
theorem Try.places72 : placesO Try.prog 72 = none := by kernel_rfl
theorem Try.agg77 : aggO Try.prog 77 = some true := by kernel_rfl
theorem Try.sz77 : szO Try.prog 77 = some 4 := by kernel_rfl
theorem Try.arr77 : arrO Try.prog 77 = some (4, 29) := by kernel_rfl
theorem Try.slc77 : slcO Try.prog 77 = none := by kernel_rfl
theorem Try.int77 : intO Try.prog 77 = none := by kernel_rfl
theorem Try.str77 : strO Try.prog 77 = false := by kernel_rfl
theorem Try.map77 : mapO Try.prog 77 = none := by kernel_rfl
theorem Try.flat77 : flatT Try.prog 77 = false := by kernel_rfl
theorem Try.bool77 : boolT Try.prog 77 = false := by kernel_rfl
theorem Try.iface77 : ifaceT Try.prog 77 = false := by kernel_rfl
theorem Try.zero77 : zeroO Try.prog 77 = some (.agg #[.slice none 0 0, .slice none 0 0, .slice none 0 0, .slice none 0 0]) := by kernel_rfl
theorem Try.places77 : placesO Try.prog 77 = none := by kernel_rfl
theorem Try.agg79 : aggO Try.prog 79 = some true := by kernel_rfl
theorem Try.sz79 : szO Try.prog 79 = some 5 := by kernel_rfl
theorem Try.arr79 : arrO Try.prog 79 = none := by kernel_rfl
theorem Try.slc79 : slcO Try.prog 79 = none := by kernel_rfl
theorem Try.int79 : intO Try.prog 79 = none := by kernel_rfl
theorem Try.str79 : strO Try.prog 79 = false := by kernel_rfl
theorem Try.map79 : mapO Try.prog 79 = none := by kernel_rfl
theorem Try.flat79 : flatT Try.prog 79 = false := by kernel_rfl
theorem Try.bool79 : boolT Try.prog 79 = false := by kernel_rfl
theorem Try.iface79 : ifaceT Try.prog 79 = false := by kernel_rfl
theorem Try.zero79 : zeroO Try.prog 79 = some (.agg #[.slice none 0 0, .slice none 0 0, .slice none 0 0, .slice none 0 0, .int .i64 0]) := by kernel_rfl
theorem Try.places79 : placesO Try.prog 79 = some [(0, 4), (4, 1)] := by kernel_rfl
theorem Try.agg80 : aggO Try.prog 80 = some false := by kernel_rfl
theorem Try.sz80 : szO Try.prog 80 = some 1 := by kernel_rfl
theorem Try.arr80 : arrO Try.prog 80 = none := by kernel_rfl
theorem Try.slc80 : slcO Try.prog 80 = none := by kernel_rfl
theorem Try.int80 : intO Try.prog 80 = none := by kernel_rfl
theorem Try.str80 : strO Try.prog 80 = false := by kernel_rfl
theorem Try.map80 : mapO Try.prog 80 = some (52, 81) := by kernel_rfl
theorem Try.flat80 : flatT Try.prog 80 = false := by kernel_rfl
theorem Try.bool80 : boolT Try.prog 80 = false := by kernel_rfl
theorem Try.iface80 : ifaceT Try.prog 80 = false := by kernel_rfl
theorem Try.zero80 : zeroO Try.prog 80 = some (.map none) := by kernel_rfl
theorem Try.places80 : placesO Try.prog 80 = none := by kernel_rfl
theorem Try.agg81 : aggO Try.prog 81 = some false := by kernel_rfl
theorem Try.sz81 : szO Try.prog 81 = some 1 := by kernel_rfl
theorem Try.arr81 : arrO Try.prog 81 = none := by kernel_rfl
theorem Try.slc81 : slcO Try.prog 81 = none := by kernel_rfl
theorem Try.int81 : intO Try.prog 81 = none := by kernel_rfl
theorem Try.str81 : strO Try.prog 81 = false := by kernel_rfl
theorem Try.map81 : mapO Try.prog 81 = none := by kernel_rfl
theorem Try.flat81 : flatT Try.prog 81 = false := by kernel_rfl
theorem Try.bool81 : boolT Try.prog 81 = false := by kernel_rfl
theorem Try.iface81 : ifaceT Try.prog 81 = false := by kernel_rfl
theorem Try.ptr81 : ptrO Try.prog 81 = some 36 := by kernel_rfl
theorem Try.zero81 : zeroO Try.prog 81 = some (.pointer none) := by kernel_rfl
theorem Try.places81 : placesO Try.prog 81 = none := by kernel_rfl
theorem Try.agg83 : aggO Try.prog 83 = some true := by kernel_rfl
theorem Try.sz83 : szO Try.prog 83 = some 36 := by kernel_rfl
theorem Try.arr83 : arrO Try.prog 83 = none := by kernel_rfl
theorem Try.slc83 : slcO Try.prog 83 = none := by kernel_rfl
theorem Try.int83 : intO Try.prog 83 = none := by kernel_rfl
theorem Try.str83 : strO Try.prog 83 = false := by kernel_rfl
theorem Try.map83 : mapO Try.prog 83 = none := by kernel_rfl
theorem Try.flat83 : flatT Try.prog 83 = false := by kernel_rfl
theorem Try.bool83 : boolT Try.prog 83 = false := by kernel_rfl
theorem Try.iface83 : ifaceT Try.prog 83 = false := by kernel_rfl
theorem Try.zero83 : zeroO Try.prog 83 = some (.agg #[.int .u8 0, .int .u8 0, .int .u8 0, .int .u8 0, .int .u8 0, .int .u8 0, .int .u8 0, .int .u8 0, .int .u8 0, .int .u8 0, .int .u8 0, .int .u8 0, .int .u8 0, .int .u8 0, .int .u8 0, .int .u8 0, .int .u8 0, .int .u8 0, .int .u8 0, .int .u8 0, .int .u8 0, .int .u8 0, .int .u8 0, .int .u8 0, .int .u8 0, .int .u8 0, .int .u8 0, .int .u8 0, .int .u8 0, .int .u8 0, .int .u8 0, .int .u8 0, .string ByteArray.empty, .bool false, .pointer none, .pointer none]) := by kernel_rfl
theorem Try.places83 : placesO Try.prog 83 = some [(0, 32), (32, 1), (33, 1), (34, 1), (35, 1)] := by kernel_rfl
theorem Try.agg85 : aggO Try.prog 85 = some true := by kernel_rfl
theorem Try.sz85 : szO Try.prog 85 = some 37 := by kernel_rfl
theorem Try.arr85 : arrO Try.prog 85 = none := by kernel_rfl
theorem Try.slc85 : slcO Try.prog 85 = none := by kernel_rfl
theorem Try.int85 : intO Try.prog 85 = none := by kernel_rfl
theorem Try.str85 : strO Try.prog 85 = false := by kernel_rfl
theorem Try.map85 : mapO Try.prog 85 = none := by kernel_rfl
theorem Try.flat85 : flatT Try.prog 85 = false := by kernel_rfl
theorem Try.bool85 : boolT Try.prog 85 = false := by kernel_rfl
theorem Try.iface85 : ifaceT Try.prog 85 = false := by kernel_rfl
theorem Try.zero85 : zeroO Try.prog 85 = some (.agg #[.int .u8 0, .int .u8 0, .int .u8 0, .int .u8 0, .int .u8 0, .int .u8 0, .int .u8 0, .int .u8 0, .int .u8 0, .int .u8 0, .int .u8 0, .int .u8 0, .int .u8 0, .int .u8 0, .int .u8 0, .int .u8 0, .int .u8 0, .int .u8 0, .int .u8 0, .int .u8 0, .int .u8 0, .int .u8 0, .int .u8 0, .int .u8 0, .int .u8 0, .int .u8 0, .int .u8 0, .int .u8 0, .int .u8 0, .int .u8 0, .int .u8 0, .int .u8 0, .string ByteArray.empty, .bool false, .pointer none, .pointer none, .int .i64 0]) := by kernel_rfl
theorem Try.places85 : placesO Try.prog 85 = some [(0, 36), (36, 1)] := by kernel_rfl
theorem Try.agg87 : aggO Try.prog 87 = some true := by kernel_rfl
theorem Try.sz87 : szO Try.prog 87 = some 79 := by kernel_rfl
theorem Try.arr87 : arrO Try.prog 87 = none := by kernel_rfl
theorem Try.slc87 : slcO Try.prog 87 = none := by kernel_rfl
theorem Try.int87 : intO Try.prog 87 = none := by kernel_rfl
theorem Try.str87 : strO Try.prog 87 = false := by kernel_rfl
theorem Try.map87 : mapO Try.prog 87 = none := by kernel_rfl
theorem Try.flat87 : flatT Try.prog 87 = false := by kernel_rfl
theorem Try.bool87 : boolT Try.prog 87 = false := by kernel_rfl
theorem Try.iface87 : ifaceT Try.prog 87 = false := by kernel_rfl
theorem Try.places87 : placesO Try.prog 87 = some [(0, 1), (1, 1), (2, 37), (39, 37), (76, 1), (77, 1), (78, 1)] := by kernel_rfl
theorem Try.agg89 : aggO Try.prog 89 = some false := by kernel_rfl
theorem Try.sz89 : szO Try.prog 89 = some 1 := by kernel_rfl
theorem Try.arr89 : arrO Try.prog 89 = none := by kernel_rfl
theorem Try.slc89 : slcO Try.prog 89 = none := by kernel_rfl
theorem Try.int89 : intO Try.prog 89 = some .u64 := by kernel_rfl
theorem Try.str89 : strO Try.prog 89 = false := by kernel_rfl
theorem Try.map89 : mapO Try.prog 89 = none := by kernel_rfl
theorem Try.flat89 : flatT Try.prog 89 = true := by kernel_rfl
theorem Try.bool89 : boolT Try.prog 89 = false := by kernel_rfl
theorem Try.iface89 : ifaceT Try.prog 89 = false := by kernel_rfl
theorem Try.zero89 : zeroO Try.prog 89 = some (.int .u64 0) := by kernel_rfl
theorem Try.places89 : placesO Try.prog 89 = none := by kernel_rfl
theorem Try.agg90 : aggO Try.prog 90 = some false := by kernel_rfl
theorem Try.sz90 : szO Try.prog 90 = some 1 := by kernel_rfl
theorem Try.arr90 : arrO Try.prog 90 = none := by kernel_rfl
theorem Try.slc90 : slcO Try.prog 90 = none := by kernel_rfl
theorem Try.int90 : intO Try.prog 90 = some .u64 := by kernel_rfl
theorem Try.str90 : strO Try.prog 90 = false := by kernel_rfl
theorem Try.map90 : mapO Try.prog 90 = none := by kernel_rfl
theorem Try.flat90 : flatT Try.prog 90 = true := by kernel_rfl
theorem Try.bool90 : boolT Try.prog 90 = false := by kernel_rfl
theorem Try.iface90 : ifaceT Try.prog 90 = false := by kernel_rfl
theorem Try.zero90 : zeroO Try.prog 90 = some (.int .u64 0) := by kernel_rfl
theorem Try.places90 : placesO Try.prog 90 = none := by kernel_rfl
theorem Try.agg91 : aggO Try.prog 91 = some false := by kernel_rfl
theorem Try.sz91 : szO Try.prog 91 = some 1 := by kernel_rfl
theorem Try.arr91 : arrO Try.prog 91 = none := by kernel_rfl
theorem Try.slc91 : slcO Try.prog 91 = some 5 := by kernel_rfl
theorem Try.int91 : intO Try.prog 91 = none := by kernel_rfl
theorem Try.str91 : strO Try.prog 91 = false := by kernel_rfl
theorem Try.map91 : mapO Try.prog 91 = none := by kernel_rfl
theorem Try.flat91 : flatT Try.prog 91 = false := by kernel_rfl
theorem Try.bool91 : boolT Try.prog 91 = false := by kernel_rfl
theorem Try.iface91 : ifaceT Try.prog 91 = false := by kernel_rfl
theorem Try.zero91 : zeroO Try.prog 91 = some (.slice none 0 0) := by kernel_rfl
theorem Try.places91 : placesO Try.prog 91 = none := by kernel_rfl
theorem Try.agg95 : aggO Try.prog 95 = some false := by kernel_rfl
theorem Try.sz95 : szO Try.prog 95 = some 1 := by kernel_rfl
theorem Try.arr95 : arrO Try.prog 95 = none := by kernel_rfl
theorem Try.slc95 : slcO Try.prog 95 = some 100 := by kernel_rfl
theorem Try.int95 : intO Try.prog 95 = none := by kernel_rfl
theorem Try.str95 : strO Try.prog 95 = false := by kernel_rfl
theorem Try.map95 : mapO Try.prog 95 = none := by kernel_rfl
theorem Try.flat95 : flatT Try.prog 95 = false := by kernel_rfl
theorem Try.bool95 : boolT Try.prog 95 = false := by kernel_rfl
theorem Try.iface95 : ifaceT Try.prog 95 = false := by kernel_rfl
theorem Try.zero95 : zeroO Try.prog 95 = some (.slice none 0 0) := by kernel_rfl
theorem Try.places95 : placesO Try.prog 95 = none := by kernel_rfl
theorem Try.agg97 : aggO Try.prog 97 = some true := by kernel_rfl
theorem Try.sz97 : szO Try.prog 97 = some 6 := by kernel_rfl
theorem Try.arr97 : arrO Try.prog 97 = none := by kernel_rfl
theorem Try.slc97 : slcO Try.prog 97 = none := by kernel_rfl
theorem Try.int97 : intO Try.prog 97 = none := by kernel_rfl
theorem Try.str97 : strO Try.prog 97 = false := by kernel_rfl
theorem Try.map97 : mapO Try.prog 97 = none := by kernel_rfl
theorem Try.flat97 : flatT Try.prog 97 = false := by kernel_rfl
theorem Try.bool97 : boolT Try.prog 97 = false := by kernel_rfl
theorem Try.iface97 : ifaceT Try.prog 97 = false := by kernel_rfl
theorem Try.zero97 : zeroO Try.prog 97 = some (.agg #[.int .i64 0, .slice none 0 0, .slice none 0 0, .int .i64 0, .int .i64 0, .int .i64 0]) := by kernel_rfl
theorem Try.places97 : placesO Try.prog 97 = some [(0, 1), (1, 1), (2, 1), (3, 1), (4, 1), (5, 1)] := by kernel_rfl
theorem Try.agg100 : aggO Try.prog 100 = some true := by kernel_rfl
theorem Try.sz100 : szO Try.prog 100 = some 2 := by kernel_rfl
theorem Try.arr100 : arrO Try.prog 100 = none := by kernel_rfl
theorem Try.slc100 : slcO Try.prog 100 = none := by kernel_rfl
theorem Try.int100 : intO Try.prog 100 = none := by kernel_rfl
theorem Try.str100 : strO Try.prog 100 = false := by kernel_rfl
theorem Try.map100 : mapO Try.prog 100 = none := by kernel_rfl
theorem Try.flat100 : flatT Try.prog 100 = false := by kernel_rfl
theorem Try.bool100 : boolT Try.prog 100 = false := by kernel_rfl
theorem Try.iface100 : ifaceT Try.prog 100 = false := by kernel_rfl
theorem Try.zero100 : zeroO Try.prog 100 = some (.agg #[.int .i64 0, .int .i64 0]) := by kernel_rfl
theorem Try.places100 : placesO Try.prog 100 = some [(0, 1), (1, 1)] := by kernel_rfl
theorem Try.fld27_0 : fieldO Try.prog 27 0 = some (0, 3) := by kernel_rfl
theorem Try.fld27_2 : fieldO Try.prog 27 2 = some (2, 3) := by kernel_rfl
theorem Try.fld27_3 : fieldO Try.prog 27 3 = some (3, 3) := by kernel_rfl
theorem Try.fld27_4 : fieldO Try.prog 27 4 = some (4, 3) := by kernel_rfl
theorem Try.fld41_0 : fieldO Try.prog 41 0 = some (0, 38) := by kernel_rfl
theorem Try.fld41_1 : fieldO Try.prog 41 1 = some (1, 3) := by kernel_rfl
theorem Try.fld41_2 : fieldO Try.prog 41 2 = some (2, 3) := by kernel_rfl
theorem Try.fld41_3 : fieldO Try.prog 41 3 = some (3, 39) := by kernel_rfl
theorem Try.fld41_4 : fieldO Try.prog 41 4 = some (4, 39) := by kernel_rfl
theorem Try.fld41_5 : fieldO Try.prog 41 5 = some (5, 3) := by kernel_rfl
theorem Try.fld41_6 : fieldO Try.prog 41 6 = some (6, 4) := by kernel_rfl
theorem Try.fld43_0 : fieldO Try.prog 43 0 = some (0, 36) := by kernel_rfl
theorem Try.fld43_1 : fieldO Try.prog 43 1 = some (1, 37) := by kernel_rfl
theorem Try.fld43_2 : fieldO Try.prog 43 2 = some (2, 41) := by kernel_rfl
theorem Try.fld47_0 : fieldO Try.prog 47 0 = some (0, 3) := by kernel_rfl
theorem Try.fld47_1 : fieldO Try.prog 47 1 = some (1, 3) := by kernel_rfl
theorem Try.fld47_2 : fieldO Try.prog 47 2 = some (2, 3) := by kernel_rfl
theorem Try.fld47_3 : fieldO Try.prog 47 3 = some (3, 3) := by kernel_rfl
theorem Try.fld66_0 : fieldO Try.prog 66 0 = some (0, 3) := by kernel_rfl
theorem Try.fld66_1 : fieldO Try.prog 66 1 = some (1, 3) := by kernel_rfl
theorem Try.fld66_2 : fieldO Try.prog 66 2 = some (2, 4) := by kernel_rfl
theorem Try.fld66_3 : fieldO Try.prog 66 3 = some (3, 64) := by kernel_rfl
theorem Try.fld66_4 : fieldO Try.prog 66 4 = some (4, 64) := by kernel_rfl
theorem Try.fld68_0 : fieldO Try.prog 68 0 = some (0, 66) := by kernel_rfl
theorem Try.fld68_1 : fieldO Try.prog 68 1 = some (5, 3) := by kernel_rfl
theorem Try.fld70_0 : fieldO Try.prog 70 0 = some (0, 3) := by kernel_rfl
theorem Try.fld70_1 : fieldO Try.prog 70 1 = some (1, 63) := by kernel_rfl
theorem Try.fld70_2 : fieldO Try.prog 70 2 = some (2, 68) := by kernel_rfl
theorem Try.fld70_3 : fieldO Try.prog 70 3 = some (8, 68) := by kernel_rfl
theorem Try.fld70_4 : fieldO Try.prog 70 4 = some (14, 3) := by kernel_rfl
theorem Try.fld70_5 : fieldO Try.prog 70 5 = some (15, 3) := by kernel_rfl
theorem Try.fld70_6 : fieldO Try.prog 70 6 = some (16, 3) := by kernel_rfl
theorem Try.fld79_0 : fieldO Try.prog 79 0 = some (0, 77) := by kernel_rfl
theorem Try.fld79_1 : fieldO Try.prog 79 1 = some (4, 3) := by kernel_rfl
theorem Try.fld83_0 : fieldO Try.prog 83 0 = some (0, 52) := by kernel_rfl
theorem Try.fld83_1 : fieldO Try.prog 83 1 = some (32, 9) := by kernel_rfl
theorem Try.fld83_2 : fieldO Try.prog 83 2 = some (33, 4) := by kernel_rfl
theorem Try.fld83_3 : fieldO Try.prog 83 3 = some (34, 81) := by kernel_rfl
theorem Try.fld83_4 : fieldO Try.prog 83 4 = some (35, 81) := by kernel_rfl
theorem Try.fld85_0 : fieldO Try.prog 85 0 = some (0, 83) := by kernel_rfl
theorem Try.fld85_1 : fieldO Try.prog 85 1 = some (36, 3) := by kernel_rfl
theorem Try.fld87_0 : fieldO Try.prog 87 0 = some (0, 3) := by kernel_rfl
theorem Try.fld87_1 : fieldO Try.prog 87 1 = some (1, 80) := by kernel_rfl
theorem Try.fld87_2 : fieldO Try.prog 87 2 = some (2, 85) := by kernel_rfl
theorem Try.fld87_3 : fieldO Try.prog 87 3 = some (39, 85) := by kernel_rfl
theorem Try.fld87_4 : fieldO Try.prog 87 4 = some (76, 3) := by kernel_rfl
theorem Try.fld87_5 : fieldO Try.prog 87 5 = some (77, 3) := by kernel_rfl
theorem Try.fld87_6 : fieldO Try.prog 87 6 = some (78, 3) := by kernel_rfl
theorem Try.fld97_0 : fieldO Try.prog 97 0 = some (0, 3) := by kernel_rfl
theorem Try.fld97_1 : fieldO Try.prog 97 1 = some (1, 95) := by kernel_rfl
theorem Try.fld97_2 : fieldO Try.prog 97 2 = some (2, 95) := by kernel_rfl
theorem Try.fld97_3 : fieldO Try.prog 97 3 = some (3, 3) := by kernel_rfl
theorem Try.fld97_4 : fieldO Try.prog 97 4 = some (4, 3) := by kernel_rfl
theorem Try.fld97_5 : fieldO Try.prog 97 5 = some (5, 3) := by kernel_rfl
theorem Try.fld100_0 : fieldO Try.prog 100 0 = some (0, 3) := by kernel_rfl
theorem Try.fld100_1 : fieldO Try.prog 100 1 = some (1, 3) := by kernel_rfl
theorem Try.cv3_89 : cvP Try.prog 3 89 = true := by kernel_rfl
theorem Try.cv3_90 : cvP Try.prog 3 90 = true := by kernel_rfl
theorem Try.cv89_5 : cvP Try.prog 89 5 = true := by kernel_rfl
theorem Try.cv91_9 : cvP Try.prog 91 9 = false := by kernel_rfl
theorem Try.eqg27 : Try.prog.eqGuardType Try.prog.depth 27 = false := by kernel_rfl
theorem Try.eqg52 : Try.prog.eqGuardType Try.prog.depth 52 = false := by kernel_rfl
attribute [go_sem] Try.agg3 Try.sz3 Try.arr3 Try.slc3 Try.int3 Try.str3 Try.map3 Try.flat3 Try.bool3 Try.iface3 Try.zero3 Try.places3 Try.agg4 Try.sz4 Try.arr4 Try.slc4 Try.int4 Try.str4 Try.map4 Try.flat4 Try.bool4 Try.iface4 Try.zero4 Try.places4 Try.agg5 Try.sz5 Try.arr5 Try.slc5 Try.int5 Try.str5 Try.map5 Try.flat5 Try.bool5 Try.iface5 Try.zero5 Try.places5 Try.agg9 Try.sz9 Try.arr9 Try.slc9 Try.int9 Try.str9 Try.map9 Try.flat9 Try.bool9 Try.iface9 Try.zero9 Try.places9 Try.agg23 Try.sz23 Try.arr23 Try.slc23 Try.int23 Try.str23 Try.map23 Try.flat23 Try.bool23 Try.iface23 Try.ptr23 Try.zero23 Try.places23 Try.agg27 Try.sz27 Try.arr27 Try.slc27 Try.int27 Try.str27 Try.map27 Try.flat27 Try.bool27 Try.iface27 Try.zero27 Try.places27 Try.agg29 Try.sz29 Try.arr29 Try.slc29 Try.int29 Try.str29 Try.map29 Try.flat29 Try.bool29 Try.iface29 Try.zero29 Try.places29 Try.agg34 Try.sz34 Try.arr34 Try.slc34 Try.int34 Try.str34 Try.map34 Try.flat34 Try.bool34 Try.iface34 Try.zero34 Try.places34 Try.agg36 Try.sz36 Try.arr36 Try.slc36 Try.int36 Try.str36 Try.map36 Try.flat36 Try.bool36 Try.iface36 Try.zero36 Try.places36 Try.agg37 Try.sz37 Try.arr37 Try.slc37 Try.int37 Try.str37 Try.map37 Try.flat37 Try.bool37 Try.iface37 Try.zero37 Try.places37 Try.agg38 Try.sz38 Try.arr38 Try.slc38 Try.int38 Try.str38 Try.map38 Try.flat38 Try.bool38 Try.iface38 Try.zero38 Try.places38 Try.agg39 Try.sz39 Try.arr39 Try.slc39 Try.int39 Try.str39 Try.map39 Try.flat39 Try.bool39 Try.iface39 Try.zero39 Try.places39 Try.agg41 Try.sz41 Try.arr41 Try.slc41 Try.int41 Try.str41 Try.map41 Try.flat41 Try.bool41 Try.iface41 Try.zero41 Try.places41 Try.agg43 Try.sz43 Try.arr43 Try.slc43 Try.int43 Try.str43 Try.map43 Try.flat43 Try.bool43 Try.iface43 Try.zero43 Try.places43 Try.agg47 Try.sz47 Try.arr47 Try.slc47 Try.int47 Try.str47 Try.map47 Try.flat47 Try.bool47 Try.iface47 Try.zero47 Try.places47 Try.agg49 Try.sz49 Try.arr49 Try.slc49 Try.int49 Try.str49 Try.map49 Try.flat49 Try.bool49 Try.iface49 Try.ptr49 Try.zero49 Try.places49 Try.agg52 Try.sz52 Try.arr52 Try.slc52 Try.int52 Try.str52 Try.map52 Try.flat52 Try.bool52 Try.iface52 Try.zero52 Try.places52 Try.agg58 Try.sz58 Try.arr58 Try.slc58 Try.int58 Try.str58 Try.map58 Try.flat58 Try.bool58 Try.iface58 Try.zero58 Try.places58 Try.agg63 Try.sz63 Try.arr63 Try.slc63 Try.int63 Try.str63 Try.map63 Try.flat63 Try.bool63 Try.iface63 Try.zero63 Try.places63 Try.agg64 Try.sz64 Try.arr64 Try.slc64 Try.int64 Try.str64 Try.map64 Try.flat64 Try.bool64 Try.iface64 Try.ptr64 Try.zero64 Try.places64 Try.agg66 Try.sz66 Try.arr66 Try.slc66 Try.int66 Try.str66 Try.map66 Try.flat66 Try.bool66 Try.iface66 Try.zero66 Try.places66 Try.agg68 Try.sz68 Try.arr68 Try.slc68 Try.int68 Try.str68 Try.map68 Try.flat68 Try.bool68 Try.iface68 Try.zero68 Try.places68 Try.agg70 Try.sz70 Try.arr70 Try.slc70 Try.int70 Try.str70 Try.map70 Try.flat70 Try.bool70 Try.iface70 Try.zero70 Try.places70 Try.agg72 Try.sz72 Try.arr72 Try.slc72 Try.int72 Try.str72 Try.map72 Try.flat72 Try.bool72 Try.iface72 Try.ptr72 Try.zero72 Try.places72 Try.agg77 Try.sz77 Try.arr77 Try.slc77 Try.int77 Try.str77 Try.map77 Try.flat77 Try.bool77 Try.iface77 Try.zero77 Try.places77 Try.agg79 Try.sz79 Try.arr79 Try.slc79 Try.int79 Try.str79 Try.map79 Try.flat79 Try.bool79 Try.iface79 Try.zero79 Try.places79 Try.agg80 Try.sz80 Try.arr80 Try.slc80 Try.int80 Try.str80 Try.map80 Try.flat80 Try.bool80 Try.iface80 Try.zero80 Try.places80 Try.agg81 Try.sz81 Try.arr81 Try.slc81 Try.int81 Try.str81 Try.map81 Try.flat81 Try.bool81 Try.iface81 Try.ptr81 Try.zero81 Try.places81 Try.agg83 Try.sz83 Try.arr83 Try.slc83 Try.int83 Try.str83 Try.map83 Try.flat83 Try.bool83 Try.iface83 Try.zero83 Try.places83 Try.agg85 Try.sz85 Try.arr85 Try.slc85 Try.int85 Try.str85 Try.map85 Try.flat85 Try.bool85 Try.iface85 Try.zero85 Try.places85 Try.agg87 Try.sz87 Try.arr87 Try.slc87 Try.int87 Try.str87 Try.map87 Try.flat87 Try.bool87 Try.iface87 Try.places87 Try.agg89 Try.sz89 Try.arr89 Try.slc89 Try.int89 Try.str89 Try.map89 Try.flat89 Try.bool89 Try.iface89 Try.zero89 Try.places89 Try.agg90 Try.sz90 Try.arr90 Try.slc90 Try.int90 Try.str90 Try.map90 Try.flat90 Try.bool90 Try.iface90 Try.zero90 Try.places90 Try.agg91 Try.sz91 Try.arr91 Try.slc91 Try.int91 Try.str91 Try.map91 Try.flat91 Try.bool91 Try.iface91 Try.zero91 Try.places91 Try.agg95 Try.sz95 Try.arr95 Try.slc95 Try.int95 Try.str95 Try.map95 Try.flat95 Try.bool95 Try.iface95 Try.zero95 Try.places95 Try.agg97 Try.sz97 Try.arr97 Try.slc97 Try.int97 Try.str97 Try.map97 Try.flat97 Try.bool97 Try.iface97 Try.zero97 Try.places97 Try.agg100 Try.sz100 Try.arr100 Try.slc100 Try.int100 Try.str100 Try.map100 Try.flat100 Try.bool100 Try.iface100 Try.zero100 Try.places100 Try.fld27_0 Try.fld27_2 Try.fld27_3 Try.fld27_4 Try.fld41_0 Try.fld41_1 Try.fld41_2 Try.fld41_3 Try.fld41_4 Try.fld41_5 Try.fld41_6 Try.fld43_0 Try.fld43_1 Try.fld43_2 Try.fld47_0 Try.fld47_1 Try.fld47_2 Try.fld47_3 Try.fld66_0 Try.fld66_1 Try.fld66_2 Try.fld66_3 Try.fld66_4 Try.fld68_0 Try.fld68_1 Try.fld70_0 Try.fld70_1 Try.fld70_2 Try.fld70_3 Try.fld70_4 Try.fld70_5 Try.fld70_6 Try.fld79_0 Try.fld79_1 Try.fld83_0 Try.fld83_1 Try.fld83_2 Try.fld83_3 Try.fld83_4 Try.fld85_0 Try.fld85_1 Try.fld87_0 Try.fld87_1 Try.fld87_2 Try.fld87_3 Try.fld87_4 Try.fld87_5 Try.fld87_6 Try.fld97_0 Try.fld97_1 Try.fld97_2 Try.fld97_3 Try.fld97_4 Try.fld97_5 Try.fld100_0 Try.fld100_1 Try.cv3_89 Try.cv3_90 Try.cv89_5 Try.cv91_9 Try.eqg27 Try.eqg52
-- gosem.cut.init
theorem Try.pl2 : plainFn Try.prog 2 = true := by kernel_rfl
theorem Try.isb2 : Try.f2.body.isSome = true := by kernel_rfl
theorem Try.ok2 : codeOk Try.prog Try.f2.ntmps [] (bodyOf Try.f2) = true := by kernel_rfl
theorem Try.go2 {args : Array Value} {w : World} {K : Value → World → Prop} (hargs : args.size ≤ 1) (h : den Try.prog Try.f2.ntmps [] (bodyOf Try.f2) (retQ Try.prog Try.f2.results.toList K) (ev0 args.toList 0) w) : Fn Try.prog 2 args w K :=
  fn_of_den [] Try.func2 Try.isb2 Try.ok2 hargs h
-- ledger/ledgerlaw22.WitnessNames
theorem Try.pl3 : plainFn Try.prog 3 = true := by kernel_rfl
theorem Try.isb3 : Try.f3.body.isSome = true := by kernel_rfl
theorem Try.ok3 : codeOk Try.prog Try.f3.ntmps [] (bodyOf Try.f3) = true := by kernel_rfl
theorem Try.go3 {args : Array Value} {w : World} {K : Value → World → Prop} (hargs : args.size ≤ 1) (h : den Try.prog Try.f3.ntmps [] (bodyOf Try.f3) (retQ Try.prog Try.f3.results.toList K) (ev0 args.toList 0) w) : Fn Try.prog 3 args w K :=
  fn_of_den [] Try.func3 Try.isb3 Try.ok3 hargs h
-- ledger/ledgerlaw7.CacheNames
theorem Try.pl4 : plainFn Try.prog 4 = true := by kernel_rfl
theorem Try.isb4 : Try.f4.body.isSome = true := by kernel_rfl
theorem Try.ok4 : codeOk Try.prog Try.f4.ntmps [] (bodyOf Try.f4) = true := by kernel_rfl
theorem Try.go4 {args : Array Value} {w : World} {K : Value → World → Prop} (hargs : args.size ≤ 25) (h : den Try.prog Try.f4.ntmps [] (bodyOf Try.f4) (retQ Try.prog Try.f4.results.toList K) (ev0 args.toList 0) w) : Fn Try.prog 4 args w K :=
  fn_of_den [] Try.func4 Try.isb4 Try.ok4 hargs h
-- ledger/ledgerlaw7.CacheRoom
theorem Try.pl5 : plainFn Try.prog 5 = true := by kernel_rfl
theorem Try.isb5 : Try.f5.body.isSome = true := by kernel_rfl
theorem Try.ok5 : codeOk Try.prog Try.f5.ntmps [] (bodyOf Try.f5) = true := by kernel_rfl
theorem Try.go5 {args : Array Value} {w : World} {K : Value → World → Prop} (hargs : args.size ≤ 145) (h : den Try.prog Try.f5.ntmps [] (bodyOf Try.f5) (retQ Try.prog Try.f5.results.toList K) (ev0 args.toList 0) w) : Fn Try.prog 5 args w K :=
  fn_of_den [] Try.func5 Try.isb5 Try.ok5 hargs h
-- ledger/ledgerlaw7.CachePlays
theorem Try.pl6 : plainFn Try.prog 6 = true := by kernel_rfl
theorem Try.isb6 : Try.f6.body.isSome = true := by kernel_rfl
theorem Try.ok6 : codeOk Try.prog Try.f6.ntmps [] (bodyOf Try.f6) = true := by kernel_rfl
theorem Try.go6 {args : Array Value} {w : World} {K : Value → World → Prop} (hargs : args.size ≤ 60) (h : den Try.prog Try.f6.ntmps [] (bodyOf Try.f6) (retQ Try.prog Try.f6.results.toList K) (ev0 args.toList 0) w) : Fn Try.prog 6 args w K :=
  fn_of_den [] Try.func6 Try.isb6 Try.ok6 hargs h
-- ledger/ledgerlaw7.CacheTwins
theorem Try.pl7 : plainFn Try.prog 7 = true := by kernel_rfl
theorem Try.isb7 : Try.f7.body.isSome = true := by kernel_rfl
theorem Try.ok7 : codeOk Try.prog Try.f7.ntmps [] (bodyOf Try.f7) = true := by kernel_rfl
theorem Try.go7 {args : Array Value} {w : World} {K : Value → World → Prop} (hargs : args.size ≤ 84) (h : den Try.prog Try.f7.ntmps [] (bodyOf Try.f7) (retQ Try.prog Try.f7.results.toList K) (ev0 args.toList 0) w) : Fn Try.prog 7 args w K :=
  fn_of_den [] Try.func7 Try.isb7 Try.ok7 hargs h
-- ledger/ledgerlaw7.CacheNested
theorem Try.pl8 : plainFn Try.prog 8 = true := by kernel_rfl
theorem Try.isb8 : Try.f8.body.isSome = true := by kernel_rfl
theorem Try.ok8 : codeOk Try.prog Try.f8.ntmps [] (bodyOf Try.f8) = true := by kernel_rfl
theorem Try.go8 {args : Array Value} {w : World} {K : Value → World → Prop} (hargs : args.size ≤ 106) (h : den Try.prog Try.f8.ntmps [] (bodyOf Try.f8) (retQ Try.prog Try.f8.results.toList K) (ev0 args.toList 0) w) : Fn Try.prog 8 args w K :=
  fn_of_den [] Try.func8 Try.isb8 Try.ok8 hargs h
-- ledger/cache.New[int,int]
theorem Try.pl9 : plainFn Try.prog 9 = true := by kernel_rfl
theorem Try.isb9 : Try.f9.body.isSome = true := by kernel_rfl
theorem Try.ok9 : codeOk Try.prog Try.f9.ntmps [] (bodyOf Try.f9) = true := by kernel_rfl
theorem Try.go9 {args : Array Value} {w : World} {K : Value → World → Prop} (hargs : args.size ≤ 19) (h : den Try.prog Try.f9.ntmps [] (bodyOf Try.f9) (retQ Try.prog Try.f9.results.toList K) (ev0 args.toList 0) w) : Fn Try.prog 9 args w K :=
  fn_of_den [] Try.func9 Try.isb9 Try.ok9 hargs h
-- (*ledger/cache.Cache[int, int]).Put
theorem Try.pl10 : plainFn Try.prog 10 = true := by kernel_rfl
theorem Try.isb10 : Try.f10.body.isSome = true := by kernel_rfl
theorem Try.ok10 : codeOk Try.prog Try.f10.ntmps [] (bodyOf Try.f10) = true := by kernel_rfl
theorem Try.go10 {args : Array Value} {w : World} {K : Value → World → Prop} (hargs : args.size ≤ 52) (h : den Try.prog Try.f10.ntmps [] (bodyOf Try.f10) (retQ Try.prog Try.f10.results.toList K) (ev0 args.toList 0) w) : Fn Try.prog 10 args w K :=
  fn_of_den [] Try.func10 Try.isb10 Try.ok10 hargs h
-- (*ledger/cache.Cache[int, int]).Tally
theorem Try.pl11 : plainFn Try.prog 11 = true := by kernel_rfl
theorem Try.isb11 : Try.f11.body.isSome = true := by kernel_rfl
theorem Try.ok11 : codeOk Try.prog Try.f11.ntmps [] (bodyOf Try.f11) = true := by kernel_rfl
theorem Try.go11 {args : Array Value} {w : World} {K : Value → World → Prop} (hargs : args.size ≤ 26) (h : den Try.prog Try.f11.ntmps [] (bodyOf Try.f11) (retQ Try.prog Try.f11.results.toList K) (ev0 args.toList 0) w) : Fn Try.prog 11 args w K :=
  fn_of_den [] Try.func11 Try.isb11 Try.ok11 hargs h
-- (*ledger/cache.Cache[int, int]).Keys
theorem Try.pl12 : plainFn Try.prog 12 = true := by kernel_rfl
theorem Try.isb12 : Try.f12.body.isSome = true := by kernel_rfl
theorem Try.ok12 : codeOk Try.prog Try.f12.ntmps [] (bodyOf Try.f12) = true := by kernel_rfl
theorem Try.go12 {args : Array Value} {w : World} {K : Value → World → Prop} (hargs : args.size ≤ 29) (h : den Try.prog Try.f12.ntmps [] (bodyOf Try.f12) (retQ Try.prog Try.f12.results.toList K) (ev0 args.toList 0) w) : Fn Try.prog 12 args w K :=
  fn_of_den [] Try.func12 Try.isb12 Try.ok12 hargs h
-- (*ledger/cache.Cache[int, int]).Get
theorem Try.pl13 : plainFn Try.prog 13 = true := by kernel_rfl
theorem Try.isb13 : Try.f13.body.isSome = true := by kernel_rfl
theorem Try.ok13 : codeOk Try.prog Try.f13.ntmps [] (bodyOf Try.f13) = true := by kernel_rfl
theorem Try.go13 {args : Array Value} {w : World} {K : Value → World → Prop} (hargs : args.size ≤ 50) (h : den Try.prog Try.f13.ntmps [] (bodyOf Try.f13) (retQ Try.prog Try.f13.results.toList K) (ev0 args.toList 0) w) : Fn Try.prog 13 args w K :=
  fn_of_den [] Try.func13 Try.isb13 Try.ok13 hargs h
-- (*ledger/ledgerlaw7.row).joins
theorem Try.pl14 : plainFn Try.prog 14 = true := by kernel_rfl
theorem Try.isb14 : Try.f14.body.isSome = true := by kernel_rfl
theorem Try.ok14 : codeOk Try.prog Try.f14.ntmps [5] (bodyOf Try.f14) = true := by kernel_rfl
theorem Try.go14 {args : Array Value} {w : World} {K : Value → World → Prop} (hargs : args.size ≤ 31) (h : den Try.prog Try.f14.ntmps [5] (bodyOf Try.f14) (retQ Try.prog Try.f14.results.toList K) (ev0 args.toList 0) w) : Fn Try.prog 14 args w K :=
  fn_of_den [5] Try.func14 Try.isb14 Try.ok14 hargs h
-- (*ledger/ledgerlaw7.row).plays
theorem Try.pl15 : plainFn Try.prog 15 = true := by kernel_rfl
theorem Try.isb15 : Try.f15.body.isSome = true := by kernel_rfl
theorem Try.ok15 : codeOk Try.prog Try.f15.ntmps [] (bodyOf Try.f15) = true := by kernel_rfl
theorem Try.go15 {args : Array Value} {w : World} {K : Value → World → Prop} (hargs : args.size ≤ 134) (h : den Try.prog Try.f15.ntmps [] (bodyOf Try.f15) (retQ Try.prog Try.f15.results.toList K) (ev0 args.toList 0) w) : Fn Try.prog 15 args w K :=
  fn_of_den [] Try.func15 Try.isb15 Try.ok15 hargs h
-- (*ledger/ledgerlaw7.Book).stands
theorem Try.pl16 : plainFn Try.prog 16 = true := by kernel_rfl
theorem Try.isb16 : Try.f16.body.isSome = true := by kernel_rfl
theorem Try.ok16 : codeOk Try.prog Try.f16.ntmps [] (bodyOf Try.f16) = true := by kernel_rfl
theorem Try.go16 {args : Array Value} {w : World} {K : Value → World → Prop} (hargs : args.size ≤ 51) (h : den Try.prog Try.f16.ntmps [] (bodyOf Try.f16) (retQ Try.prog Try.f16.results.toList K) (ev0 args.toList 0) w) : Fn Try.prog 16 args w K :=
  fn_of_den [] Try.func16 Try.isb16 Try.ok16 hargs h
-- (*ledger/ledgerlaw7.Book).ends
theorem Try.pl17 : plainFn Try.prog 17 = true := by kernel_rfl
theorem Try.isb17 : Try.f17.body.isSome = true := by kernel_rfl
theorem Try.ok17 : codeOk Try.prog Try.f17.ntmps [] (bodyOf Try.f17) = true := by kernel_rfl
theorem Try.go17 {args : Array Value} {w : World} {K : Value → World → Prop} (hargs : args.size ≤ 20) (h : den Try.prog Try.f17.ntmps [] (bodyOf Try.f17) (retQ Try.prog Try.f17.results.toList K) (ev0 args.toList 0) w) : Fn Try.prog 17 args w K :=
  fn_of_den [] Try.func17 Try.isb17 Try.ok17 hargs h
-- ledger/cache.New[ledger/api.Key,string]
theorem Try.pl18 : plainFn Try.prog 18 = true := by kernel_rfl
theorem Try.isb18 : Try.f18.body.isSome = true := by kernel_rfl
theorem Try.ok18 : codeOk Try.prog Try.f18.ntmps [] (bodyOf Try.f18) = true := by kernel_rfl
theorem Try.go18 {args : Array Value} {w : World} {K : Value → World → Prop} (hargs : args.size ≤ 19) (h : den Try.prog Try.f18.ntmps [] (bodyOf Try.f18) (retQ Try.prog Try.f18.results.toList K) (ev0 args.toList 0) w) : Fn Try.prog 18 args w K :=
  fn_of_den [] Try.func18 Try.isb18 Try.ok18 hargs h
-- (*ledger/cache.Cache[int, int]).Hold
theorem Try.pl19 : plainFn Try.prog 19 = true := by kernel_rfl
theorem Try.isb19 : Try.f19.body.isSome = true := by kernel_rfl
theorem Try.ok19 : codeOk Try.prog Try.f19.ntmps [] (bodyOf Try.f19) = true := by kernel_rfl
theorem Try.go19 {args : Array Value} {w : World} {K : Value → World → Prop} (hargs : args.size ≤ 53) (h : den Try.prog Try.f19.ntmps [] (bodyOf Try.f19) (retQ Try.prog Try.f19.results.toList K) (ev0 args.toList 0) w) : Fn Try.prog 19 args w K :=
  fn_of_den [] Try.func19 Try.isb19 Try.ok19 hargs h
-- (*ledger/cache.Cache[ledger/api.Key, string]).Hold
theorem Try.pl20 : plainFn Try.prog 20 = true := by kernel_rfl
theorem Try.isb20 : Try.f20.body.isSome = true := by kernel_rfl
theorem Try.ok20 : codeOk Try.prog Try.f20.ntmps [] (bodyOf Try.f20) = true := by kernel_rfl
theorem Try.go20 {args : Array Value} {w : World} {K : Value → World → Prop} (hargs : args.size ≤ 53) (h : den Try.prog Try.f20.ntmps [] (bodyOf Try.f20) (retQ Try.prog Try.f20.results.toList K) (ev0 args.toList 0) w) : Fn Try.prog 20 args w K :=
  fn_of_den [] Try.func20 Try.isb20 Try.ok20 hargs h
-- ledger/ledgerlaw7.path
theorem Try.pl21 : plainFn Try.prog 21 = true := by kernel_rfl
theorem Try.isb21 : Try.f21.body.isSome = true := by kernel_rfl
theorem Try.ok21 : codeOk Try.prog Try.f21.ntmps [] (bodyOf Try.f21) = true := by kernel_rfl
theorem Try.go21 {args : Array Value} {w : World} {K : Value → World → Prop} (hargs : args.size ≤ 20) (h : den Try.prog Try.f21.ntmps [] (bodyOf Try.f21) (retQ Try.prog Try.f21.results.toList K) (ev0 args.toList 0) w) : Fn Try.prog 21 args w K :=
  fn_of_den [] Try.func21 Try.isb21 Try.ok21 hargs h
-- ledger/ledgerlaw7.word
theorem Try.pl22 : plainFn Try.prog 22 = true := by kernel_rfl
theorem Try.isb22 : Try.f22.body.isSome = true := by kernel_rfl
theorem Try.ok22 : codeOk Try.prog Try.f22.ntmps [] (bodyOf Try.f22) = true := by kernel_rfl
theorem Try.go22 {args : Array Value} {w : World} {K : Value → World → Prop} (hargs : args.size ≤ 8) (h : den Try.prog Try.f22.ntmps [] (bodyOf Try.f22) (retQ Try.prog Try.f22.results.toList K) (ev0 args.toList 0) w) : Fn Try.prog 22 args w K :=
  fn_of_den [] Try.func22 Try.isb22 Try.ok22 hargs h
-- ledger/ledgerlaw7.twin
theorem Try.pl23 : plainFn Try.prog 23 = true := by kernel_rfl
theorem Try.isb23 : Try.f23.body.isSome = true := by kernel_rfl
theorem Try.ok23 : codeOk Try.prog Try.f23.ntmps [8, 11] (bodyOf Try.f23) = true := by kernel_rfl
theorem Try.go23 {args : Array Value} {w : World} {K : Value → World → Prop} (hargs : args.size ≤ 102) (h : den Try.prog Try.f23.ntmps [8, 11] (bodyOf Try.f23) (retQ Try.prog Try.f23.results.toList K) (ev0 args.toList 0) w) : Fn Try.prog 23 args w K :=
  fn_of_den [8, 11] Try.func23 Try.isb23 Try.ok23 hargs h
-- (*ledger/cache.Cache[ledger/api.Key, string]).Tally
theorem Try.pl24 : plainFn Try.prog 24 = true := by kernel_rfl
theorem Try.isb24 : Try.f24.body.isSome = true := by kernel_rfl
theorem Try.ok24 : codeOk Try.prog Try.f24.ntmps [] (bodyOf Try.f24) = true := by kernel_rfl
theorem Try.go24 {args : Array Value} {w : World} {K : Value → World → Prop} (hargs : args.size ≤ 26) (h : den Try.prog Try.f24.ntmps [] (bodyOf Try.f24) (retQ Try.prog Try.f24.results.toList K) (ev0 args.toList 0) w) : Fn Try.prog 24 args w K :=
  fn_of_den [] Try.func24 Try.isb24 Try.ok24 hargs h
-- ledger/ledgerlaw7.paths
theorem Try.pl25 : plainFn Try.prog 25 = true := by kernel_rfl
theorem Try.isb25 : Try.f25.body.isSome = true := by kernel_rfl
theorem Try.ok25 : codeOk Try.prog Try.f25.ntmps [6] (bodyOf Try.f25) = true := by kernel_rfl
theorem Try.go25 {args : Array Value} {w : World} {K : Value → World → Prop} (hargs : args.size ≤ 27) (h : den Try.prog Try.f25.ntmps [6] (bodyOf Try.f25) (retQ Try.prog Try.f25.results.toList K) (ev0 args.toList 0) w) : Fn Try.prog 25 args w K :=
  fn_of_den [6] Try.func25 Try.isb25 Try.ok25 hargs h
-- (*ledger/cache.Cache[ledger/api.Key, string]).Keys
theorem Try.pl26 : plainFn Try.prog 26 = true := by kernel_rfl
theorem Try.isb26 : Try.f26.body.isSome = true := by kernel_rfl
theorem Try.ok26 : codeOk Try.prog Try.f26.ntmps [] (bodyOf Try.f26) = true := by kernel_rfl
theorem Try.go26 {args : Array Value} {w : World} {K : Value → World → Prop} (hargs : args.size ≤ 29) (h : den Try.prog Try.f26.ntmps [] (bodyOf Try.f26) (retQ Try.prog Try.f26.results.toList K) (ev0 args.toList 0) w) : Fn Try.prog 26 args w K :=
  fn_of_den [] Try.func26 Try.isb26 Try.ok26 hargs h
-- (*ledger/cache.Cache[int, int]).Held
theorem Try.pl27 : plainFn Try.prog 27 = true := by kernel_rfl
theorem Try.isb27 : Try.f27.body.isSome = true := by kernel_rfl
theorem Try.ok27 : codeOk Try.prog Try.f27.ntmps [] (bodyOf Try.f27) = true := by kernel_rfl
theorem Try.go27 {args : Array Value} {w : World} {K : Value → World → Prop} (hargs : args.size ≤ 29) (h : den Try.prog Try.f27.ntmps [] (bodyOf Try.f27) (retQ Try.prog Try.f27.results.toList K) (ev0 args.toList 0) w) : Fn Try.prog 27 args w K :=
  fn_of_den [] Try.func27 Try.isb27 Try.ok27 hargs h
-- (*ledger/cache.Cache[ledger/api.Key, string]).Held
theorem Try.pl28 : plainFn Try.prog 28 = true := by kernel_rfl
theorem Try.isb28 : Try.f28.body.isSome = true := by kernel_rfl
theorem Try.ok28 : codeOk Try.prog Try.f28.ntmps [] (bodyOf Try.f28) = true := by kernel_rfl
theorem Try.go28 {args : Array Value} {w : World} {K : Value → World → Prop} (hargs : args.size ≤ 29) (h : den Try.prog Try.f28.ntmps [] (bodyOf Try.f28) (retQ Try.prog Try.f28.results.toList K) (ev0 args.toList 0) w) : Fn Try.prog 28 args w K :=
  fn_of_den [] Try.func28 Try.isb28 Try.ok28 hargs h
-- ledger/ledgerlaw7.nested
theorem Try.pl29 : plainFn Try.prog 29 = true := by kernel_rfl
theorem Try.isb29 : Try.f29.body.isSome = true := by kernel_rfl
theorem Try.ok29 : codeOk Try.prog Try.f29.ntmps [] (bodyOf Try.f29) = true := by kernel_rfl
theorem Try.go29 {args : Array Value} {w : World} {K : Value → World → Prop} (hargs : args.size ≤ 97) (h : den Try.prog Try.f29.ntmps [] (bodyOf Try.f29) (retQ Try.prog Try.f29.results.toList K) (ev0 args.toList 0) w) : Fn Try.prog 29 args w K :=
  fn_of_den [] Try.func29 Try.isb29 Try.ok29 hargs h
-- ledger/ledgerlaw7.within
theorem Try.pl30 : plainFn Try.prog 30 = true := by kernel_rfl
theorem Try.isb30 : Try.f30.body.isSome = true := by kernel_rfl
theorem Try.ok30 : codeOk Try.prog Try.f30.ntmps [] (bodyOf Try.f30) = true := by kernel_rfl
theorem Try.go30 {args : Array Value} {w : World} {K : Value → World → Prop} (hargs : args.size ≤ 34) (h : den Try.prog Try.f30.ntmps [] (bodyOf Try.f30) (retQ Try.prog Try.f30.results.toList K) (ev0 args.toList 0) w) : Fn Try.prog 30 args w K :=
  fn_of_den [] Try.func30 Try.isb30 Try.ok30 hargs h
-- ledger/ledgerlaw7.same
theorem Try.pl31 : plainFn Try.prog 31 = true := by kernel_rfl
theorem Try.isb31 : Try.f31.body.isSome = true := by kernel_rfl
theorem Try.ok31 : codeOk Try.prog Try.f31.ntmps [] (bodyOf Try.f31) = true := by kernel_rfl
theorem Try.go31 {args : Array Value} {w : World} {K : Value → World → Prop} (hargs : args.size ≤ 26) (h : den Try.prog Try.f31.ntmps [] (bodyOf Try.f31) (retQ Try.prog Try.f31.results.toList K) (ev0 args.toList 0) w) : Fn Try.prog 31 args w K :=
  fn_of_den [] Try.func31 Try.isb31 Try.ok31 hargs h
-- (*ledger/cache.row[int, int]).start
theorem Try.pl32 : plainFn Try.prog 32 = true := by kernel_rfl
theorem Try.isb32 : Try.f32.body.isSome = true := by kernel_rfl
theorem Try.ok32 : codeOk Try.prog Try.f32.ntmps [] (bodyOf Try.f32) = true := by kernel_rfl
theorem Try.go32 {args : Array Value} {w : World} {K : Value → World → Prop} (hargs : args.size ≤ 16) (h : den Try.prog Try.f32.ntmps [] (bodyOf Try.f32) (retQ Try.prog Try.f32.results.toList K) (ev0 args.toList 0) w) : Fn Try.prog 32 args w K :=
  fn_of_den [] Try.func32 Try.isb32 Try.ok32 hargs h
-- (*ledger/cache.row[int, int]).last
theorem Try.pl33 : plainFn Try.prog 33 = true := by kernel_rfl
theorem Try.isb33 : Try.f33.body.isSome = true := by kernel_rfl
theorem Try.ok33 : codeOk Try.prog Try.f33.ntmps [] (bodyOf Try.f33) = true := by kernel_rfl
theorem Try.go33 {args : Array Value} {w : World} {K : Value → World → Prop} (hargs : args.size ≤ 39) (h : den Try.prog Try.f33.ntmps [] (bodyOf Try.f33) (retQ Try.prog Try.f33.results.toList K) (ev0 args.toList 0) w) : Fn Try.prog 33 args w K :=
  fn_of_den [] Try.func33 Try.isb33 Try.ok33 hargs h
-- (*ledger/cache.row[int, int]).drop
theorem Try.pl34 : plainFn Try.prog 34 = true := by kernel_rfl
theorem Try.isb34 : Try.f34.body.isSome = true := by kernel_rfl
theorem Try.ok34 : codeOk Try.prog Try.f34.ntmps [] (bodyOf Try.f34) = true := by kernel_rfl
theorem Try.go34 {args : Array Value} {w : World} {K : Value → World → Prop} (hargs : args.size ≤ 31) (h : den Try.prog Try.f34.ntmps [] (bodyOf Try.f34) (retQ Try.prog Try.f34.results.toList K) (ev0 args.toList 0) w) : Fn Try.prog 34 args w K :=
  fn_of_den [] Try.func34 Try.isb34 Try.ok34 hargs h
-- (*ledger/cache.Cache[int, int]).trim
theorem Try.pl35 : plainFn Try.prog 35 = true := by kernel_rfl
theorem Try.isb35 : Try.f35.body.isSome = true := by kernel_rfl
theorem Try.ok35 : codeOk Try.prog Try.f35.ntmps [] (bodyOf Try.f35) = true := by kernel_rfl
theorem Try.go35 {args : Array Value} {w : World} {K : Value → World → Prop} (hargs : args.size ≤ 39) (h : den Try.prog Try.f35.ntmps [] (bodyOf Try.f35) (retQ Try.prog Try.f35.results.toList K) (ev0 args.toList 0) w) : Fn Try.prog 35 args w K :=
  fn_of_den [] Try.func35 Try.isb35 Try.ok35 hargs h
-- ledger/ledgerref7.New
theorem Try.pl36 : plainFn Try.prog 36 = true := by kernel_rfl
theorem Try.isb36 : Try.f36.body.isSome = true := by kernel_rfl
theorem Try.ok36 : codeOk Try.prog Try.f36.ntmps [] (bodyOf Try.f36) = true := by kernel_rfl
theorem Try.go36 {args : Array Value} {w : World} {K : Value → World → Prop} (hargs : args.size ≤ 10) (h : den Try.prog Try.f36.ntmps [] (bodyOf Try.f36) (retQ Try.prog Try.f36.results.toList K) (ev0 args.toList 0) w) : Fn Try.prog 36 args w K :=
  fn_of_den [] Try.func36 Try.isb36 Try.ok36 hargs h
-- (*ledger/ledgerref7.Cache).Get
theorem Try.pl37 : plainFn Try.prog 37 = true := by kernel_rfl
theorem Try.isb37 : Try.f37.body.isSome = true := by kernel_rfl
theorem Try.ok37 : codeOk Try.prog Try.f37.ntmps [12] (bodyOf Try.f37) = true := by kernel_rfl
theorem Try.go37 {args : Array Value} {w : World} {K : Value → World → Prop} (hargs : args.size ≤ 81) (h : den Try.prog Try.f37.ntmps [12] (bodyOf Try.f37) (retQ Try.prog Try.f37.results.toList K) (ev0 args.toList 0) w) : Fn Try.prog 37 args w K :=
  fn_of_den [12] Try.func37 Try.isb37 Try.ok37 hargs h
-- (*ledger/ledgerref7.Cache).Put
theorem Try.pl38 : plainFn Try.prog 38 = true := by kernel_rfl
theorem Try.isb38 : Try.f38.body.isSome = true := by kernel_rfl
theorem Try.ok38 : codeOk Try.prog Try.f38.ntmps [3] (bodyOf Try.f38) = true := by kernel_rfl
theorem Try.go38 {args : Array Value} {w : World} {K : Value → World → Prop} (hargs : args.size ≤ 51) (h : den Try.prog Try.f38.ntmps [3] (bodyOf Try.f38) (retQ Try.prog Try.f38.results.toList K) (ev0 args.toList 0) w) : Fn Try.prog 38 args w K :=
  fn_of_den [3] Try.func38 Try.isb38 Try.ok38 hargs h
-- (*ledger/ledgerref7.Cache).Hold
theorem Try.pl39 : plainFn Try.prog 39 = true := by kernel_rfl
theorem Try.isb39 : Try.f39.body.isSome = true := by kernel_rfl
theorem Try.ok39 : codeOk Try.prog Try.f39.ntmps [3] (bodyOf Try.f39) = true := by kernel_rfl
theorem Try.go39 {args : Array Value} {w : World} {K : Value → World → Prop} (hargs : args.size ≤ 49) (h : den Try.prog Try.f39.ntmps [3] (bodyOf Try.f39) (retQ Try.prog Try.f39.results.toList K) (ev0 args.toList 0) w) : Fn Try.prog 39 args w K :=
  fn_of_den [3] Try.func39 Try.isb39 Try.ok39 hargs h
-- (*ledger/cache.Cache[int, int]).Settle
theorem Try.pl40 : plainFn Try.prog 40 = true := by kernel_rfl
theorem Try.isb40 : Try.f40.body.isSome = true := by kernel_rfl
theorem Try.ok40 : codeOk Try.prog Try.f40.ntmps [] (bodyOf Try.f40) = true := by kernel_rfl
theorem Try.go40 {args : Array Value} {w : World} {K : Value → World → Prop} (hargs : args.size ≤ 30) (h : den Try.prog Try.f40.ntmps [] (bodyOf Try.f40) (retQ Try.prog Try.f40.results.toList K) (ev0 args.toList 0) w) : Fn Try.prog 40 args w K :=
  fn_of_den [] Try.func40 Try.isb40 Try.ok40 hargs h
-- (*ledger/ledgerref7.Cache).Settle
theorem Try.pl41 : plainFn Try.prog 41 = true := by kernel_rfl
theorem Try.isb41 : Try.f41.body.isSome = true := by kernel_rfl
theorem Try.ok41 : codeOk Try.prog Try.f41.ntmps [] (bodyOf Try.f41) = true := by kernel_rfl
theorem Try.go41 {args : Array Value} {w : World} {K : Value → World → Prop} (hargs : args.size ≤ 19) (h : den Try.prog Try.f41.ntmps [] (bodyOf Try.f41) (retQ Try.prog Try.f41.results.toList K) (ev0 args.toList 0) w) : Fn Try.prog 41 args w K :=
  fn_of_den [] Try.func41 Try.isb41 Try.ok41 hargs h
-- (*ledger/cache.Cache[int, int]).Release
theorem Try.pl42 : plainFn Try.prog 42 = true := by kernel_rfl
theorem Try.isb42 : Try.f42.body.isSome = true := by kernel_rfl
theorem Try.ok42 : codeOk Try.prog Try.f42.ntmps [] (bodyOf Try.f42) = true := by kernel_rfl
theorem Try.go42 {args : Array Value} {w : World} {K : Value → World → Prop} (hargs : args.size ≤ 32) (h : den Try.prog Try.f42.ntmps [] (bodyOf Try.f42) (retQ Try.prog Try.f42.results.toList K) (ev0 args.toList 0) w) : Fn Try.prog 42 args w K :=
  fn_of_den [] Try.func42 Try.isb42 Try.ok42 hargs h
-- (*ledger/ledgerref7.Cache).Release
theorem Try.pl43 : plainFn Try.prog 43 = true := by kernel_rfl
theorem Try.isb43 : Try.f43.body.isSome = true := by kernel_rfl
theorem Try.ok43 : codeOk Try.prog Try.f43.ntmps [] (bodyOf Try.f43) = true := by kernel_rfl
theorem Try.go43 {args : Array Value} {w : World} {K : Value → World → Prop} (hargs : args.size ≤ 36) (h : den Try.prog Try.f43.ntmps [] (bodyOf Try.f43) (retQ Try.prog Try.f43.results.toList K) (ev0 args.toList 0) w) : Fn Try.prog 43 args w K :=
  fn_of_den [] Try.func43 Try.isb43 Try.ok43 hargs h
-- (*ledger/ledgerlaw7.row).lists
theorem Try.pl44 : plainFn Try.prog 44 = true := by kernel_rfl
theorem Try.isb44 : Try.f44.body.isSome = true := by kernel_rfl
theorem Try.ok44 : codeOk Try.prog Try.f44.ntmps [] (bodyOf Try.f44) = true := by kernel_rfl
theorem Try.go44 {args : Array Value} {w : World} {K : Value → World → Prop} (hargs : args.size ≤ 66) (h : den Try.prog Try.f44.ntmps [] (bodyOf Try.f44) (retQ Try.prog Try.f44.results.toList K) (ev0 args.toList 0) w) : Fn Try.prog 44 args w K :=
  fn_of_den [] Try.func44 Try.isb44 Try.ok44 hargs h
-- (*ledger/ledgerref7.Cache).Tally
theorem Try.pl45 : plainFn Try.prog 45 = true := by kernel_rfl
theorem Try.isb45 : Try.f45.body.isSome = true := by kernel_rfl
theorem Try.ok45 : codeOk Try.prog Try.f45.ntmps [] (bodyOf Try.f45) = true := by kernel_rfl
theorem Try.go45 {args : Array Value} {w : World} {K : Value → World → Prop} (hargs : args.size ≤ 26) (h : den Try.prog Try.f45.ntmps [] (bodyOf Try.f45) (retQ Try.prog Try.f45.results.toList K) (ev0 args.toList 0) w) : Fn Try.prog 45 args w K :=
  fn_of_den [] Try.func45 Try.isb45 Try.ok45 hargs h
-- (*ledger/ledgerlaw7.Book).wakes
theorem Try.pl46 : plainFn Try.prog 46 = true := by kernel_rfl
theorem Try.isb46 : Try.f46.body.isSome = true := by kernel_rfl
theorem Try.ok46 : codeOk Try.prog Try.f46.ntmps [] (bodyOf Try.f46) = true := by kernel_rfl
theorem Try.go46 {args : Array Value} {w : World} {K : Value → World → Prop} (hargs : args.size ≤ 56) (h : den Try.prog Try.f46.ntmps [] (bodyOf Try.f46) (retQ Try.prog Try.f46.results.toList K) (ev0 args.toList 0) w) : Fn Try.prog 46 args w K :=
  fn_of_den [] Try.func46 Try.isb46 Try.ok46 hargs h
-- (*ledger/cache.row[ledger/api.Key, string]).start
theorem Try.pl47 : plainFn Try.prog 47 = true := by kernel_rfl
theorem Try.isb47 : Try.f47.body.isSome = true := by kernel_rfl
theorem Try.ok47 : codeOk Try.prog Try.f47.ntmps [] (bodyOf Try.f47) = true := by kernel_rfl
theorem Try.go47 {args : Array Value} {w : World} {K : Value → World → Prop} (hargs : args.size ≤ 16) (h : den Try.prog Try.f47.ntmps [] (bodyOf Try.f47) (retQ Try.prog Try.f47.results.toList K) (ev0 args.toList 0) w) : Fn Try.prog 47 args w K :=
  fn_of_den [] Try.func47 Try.isb47 Try.ok47 hargs h
-- (*ledger/cache.row[ledger/api.Key, string]).last
theorem Try.pl48 : plainFn Try.prog 48 = true := by kernel_rfl
theorem Try.isb48 : Try.f48.body.isSome = true := by kernel_rfl
theorem Try.ok48 : codeOk Try.prog Try.f48.ntmps [] (bodyOf Try.f48) = true := by kernel_rfl
theorem Try.go48 {args : Array Value} {w : World} {K : Value → World → Prop} (hargs : args.size ≤ 39) (h : den Try.prog Try.f48.ntmps [] (bodyOf Try.f48) (retQ Try.prog Try.f48.results.toList K) (ev0 args.toList 0) w) : Fn Try.prog 48 args w K :=
  fn_of_den [] Try.func48 Try.isb48 Try.ok48 hargs h
-- (*ledger/cache.row[ledger/api.Key, string]).drop
theorem Try.pl49 : plainFn Try.prog 49 = true := by kernel_rfl
theorem Try.isb49 : Try.f49.body.isSome = true := by kernel_rfl
theorem Try.ok49 : codeOk Try.prog Try.f49.ntmps [] (bodyOf Try.f49) = true := by kernel_rfl
theorem Try.go49 {args : Array Value} {w : World} {K : Value → World → Prop} (hargs : args.size ≤ 31) (h : den Try.prog Try.f49.ntmps [] (bodyOf Try.f49) (retQ Try.prog Try.f49.results.toList K) (ev0 args.toList 0) w) : Fn Try.prog 49 args w K :=
  fn_of_den [] Try.func49 Try.isb49 Try.ok49 hargs h
-- (*ledger/cache.Cache[ledger/api.Key, string]).Get
theorem Try.pl50 : plainFn Try.prog 50 = true := by kernel_rfl
theorem Try.isb50 : Try.f50.body.isSome = true := by kernel_rfl
theorem Try.ok50 : codeOk Try.prog Try.f50.ntmps [] (bodyOf Try.f50) = true := by kernel_rfl
theorem Try.go50 {args : Array Value} {w : World} {K : Value → World → Prop} (hargs : args.size ≤ 50) (h : den Try.prog Try.f50.ntmps [] (bodyOf Try.f50) (retQ Try.prog Try.f50.results.toList K) (ev0 args.toList 0) w) : Fn Try.prog 50 args w K :=
  fn_of_den [] Try.func50 Try.isb50 Try.ok50 hargs h
-- (*ledger/cache.Cache[ledger/api.Key, string]).Put
theorem Try.pl51 : plainFn Try.prog 51 = true := by kernel_rfl
theorem Try.isb51 : Try.f51.body.isSome = true := by kernel_rfl
theorem Try.ok51 : codeOk Try.prog Try.f51.ntmps [] (bodyOf Try.f51) = true := by kernel_rfl
theorem Try.go51 {args : Array Value} {w : World} {K : Value → World → Prop} (hargs : args.size ≤ 52) (h : den Try.prog Try.f51.ntmps [] (bodyOf Try.f51) (retQ Try.prog Try.f51.results.toList K) (ev0 args.toList 0) w) : Fn Try.prog 51 args w K :=
  fn_of_den [] Try.func51 Try.isb51 Try.ok51 hargs h
-- (*ledger/cache.Cache[ledger/api.Key, string]).Settle
theorem Try.pl52 : plainFn Try.prog 52 = true := by kernel_rfl
theorem Try.isb52 : Try.f52.body.isSome = true := by kernel_rfl
theorem Try.ok52 : codeOk Try.prog Try.f52.ntmps [] (bodyOf Try.f52) = true := by kernel_rfl
theorem Try.go52 {args : Array Value} {w : World} {K : Value → World → Prop} (hargs : args.size ≤ 30) (h : den Try.prog Try.f52.ntmps [] (bodyOf Try.f52) (retQ Try.prog Try.f52.results.toList K) (ev0 args.toList 0) w) : Fn Try.prog 52 args w K :=
  fn_of_den [] Try.func52 Try.isb52 Try.ok52 hargs h
-- (*ledger/cache.Cache[ledger/api.Key, string]).Release
theorem Try.pl53 : plainFn Try.prog 53 = true := by kernel_rfl
theorem Try.isb53 : Try.f53.body.isSome = true := by kernel_rfl
theorem Try.ok53 : codeOk Try.prog Try.f53.ntmps [] (bodyOf Try.f53) = true := by kernel_rfl
theorem Try.go53 {args : Array Value} {w : World} {K : Value → World → Prop} (hargs : args.size ≤ 32) (h : den Try.prog Try.f53.ntmps [] (bodyOf Try.f53) (retQ Try.prog Try.f53.results.toList K) (ev0 args.toList 0) w) : Fn Try.prog 53 args w K :=
  fn_of_den [] Try.func53 Try.isb53 Try.ok53 hargs h
-- ledger/ledgerref7.at
theorem Try.pl54 : plainFn Try.prog 54 = true := by kernel_rfl
theorem Try.isb54 : Try.f54.body.isSome = true := by kernel_rfl
theorem Try.ok54 : codeOk Try.prog Try.f54.ntmps [] (bodyOf Try.f54) = true := by kernel_rfl
theorem Try.go54 {args : Array Value} {w : World} {K : Value → World → Prop} (hargs : args.size ≤ 20) (h : den Try.prog Try.f54.ntmps [] (bodyOf Try.f54) (retQ Try.prog Try.f54.results.toList K) (ev0 args.toList 0) w) : Fn Try.prog 54 args w K :=
  fn_of_den [] Try.func54 Try.isb54 Try.ok54 hargs h
-- ledger/ledgerref7.without
theorem Try.pl55 : plainFn Try.prog 55 = true := by kernel_rfl
theorem Try.isb55 : Try.f55.body.isSome = true := by kernel_rfl
theorem Try.ok55 : codeOk Try.prog Try.f55.ntmps [] (bodyOf Try.f55) = true := by kernel_rfl
theorem Try.go55 {args : Array Value} {w : World} {K : Value → World → Prop} (hargs : args.size ≤ 24) (h : den Try.prog Try.f55.ntmps [] (bodyOf Try.f55) (retQ Try.prog Try.f55.results.toList K) (ev0 args.toList 0) w) : Fn Try.prog 55 args w K :=
  fn_of_den [] Try.func55 Try.isb55 Try.ok55 hargs h
-- (*ledger/ledgerref7.Cache).trim
theorem Try.pl56 : plainFn Try.prog 56 = true := by kernel_rfl
theorem Try.isb56 : Try.f56.body.isSome = true := by kernel_rfl
theorem Try.ok56 : codeOk Try.prog Try.f56.ntmps [] (bodyOf Try.f56) = true := by kernel_rfl
theorem Try.go56 {args : Array Value} {w : World} {K : Value → World → Prop} (hargs : args.size ≤ 27) (h : den Try.prog Try.f56.ntmps [] (bodyOf Try.f56) (retQ Try.prog Try.f56.results.toList K) (ev0 args.toList 0) w) : Fn Try.prog 56 args w K :=
  fn_of_den [] Try.func56 Try.isb56 Try.ok56 hargs h
-- (*ledger/ledgerref7.Cache).Keys
theorem Try.pl57 : plainFn Try.prog 57 = true := by kernel_rfl
theorem Try.isb57 : Try.f57.body.isSome = true := by kernel_rfl
theorem Try.ok57 : codeOk Try.prog Try.f57.ntmps [] (bodyOf Try.f57) = true := by kernel_rfl
theorem Try.go57 {args : Array Value} {w : World} {K : Value → World → Prop} (hargs : args.size ≤ 27) (h : den Try.prog Try.f57.ntmps [] (bodyOf Try.f57) (retQ Try.prog Try.f57.results.toList K) (ev0 args.toList 0) w) : Fn Try.prog 57 args w K :=
  fn_of_den [] Try.func57 Try.isb57 Try.ok57 hargs h
-- (*ledger/ledgerref7.Cache).Held
theorem Try.pl58 : plainFn Try.prog 58 = true := by kernel_rfl
theorem Try.isb58 : Try.f58.body.isSome = true := by kernel_rfl
theorem Try.ok58 : codeOk Try.prog Try.f58.ntmps [] (bodyOf Try.f58) = true := by kernel_rfl
theorem Try.go58 {args : Array Value} {w : World} {K : Value → World → Prop} (hargs : args.size ≤ 26) (h : den Try.prog Try.f58.ntmps [] (bodyOf Try.f58) (retQ Try.prog Try.f58.results.toList K) (ev0 args.toList 0) w) : Fn Try.prog 58 args w K :=
  fn_of_den [] Try.func58 Try.isb58 Try.ok58 hargs h
-- (*ledger/ledgerlaw7.Book).leave
theorem Try.pl59 : plainFn Try.prog 59 = true := by kernel_rfl
theorem Try.isb59 : Try.f59.body.isSome = true := by kernel_rfl
theorem Try.ok59 : codeOk Try.prog Try.f59.ntmps [1] (bodyOf Try.f59) = true := by kernel_rfl
theorem Try.go59 {args : Array Value} {w : World} {K : Value → World → Prop} (hargs : args.size ≤ 58) (h : den Try.prog Try.f59.ntmps [1] (bodyOf Try.f59) (retQ Try.prog Try.f59.results.toList K) (ev0 args.toList 0) w) : Fn Try.prog 59 args w K :=
  fn_of_den [1] Try.func59 Try.isb59 Try.ok59 hargs h
-- (*ledger/ledgerlaw7.Book).keep
theorem Try.pl60 : plainFn Try.prog 60 = true := by kernel_rfl
theorem Try.isb60 : Try.f60.body.isSome = true := by kernel_rfl
theorem Try.ok60 : codeOk Try.prog Try.f60.ntmps [] (bodyOf Try.f60) = true := by kernel_rfl
theorem Try.go60 {args : Array Value} {w : World} {K : Value → World → Prop} (hargs : args.size ≤ 131) (h : den Try.prog Try.f60.ntmps [] (bodyOf Try.f60) (retQ Try.prog Try.f60.results.toList K) (ev0 args.toList 0) w) : Fn Try.prog 60 args w K :=
  fn_of_den [] Try.func60 Try.isb60 Try.ok60 hargs h
-- (*ledger/cache.Cache[ledger/api.Key, string]).trim
theorem Try.pl61 : plainFn Try.prog 61 = true := by kernel_rfl
theorem Try.isb61 : Try.f61.body.isSome = true := by kernel_rfl
theorem Try.ok61 : codeOk Try.prog Try.f61.ntmps [] (bodyOf Try.f61) = true := by kernel_rfl
theorem Try.go61 {args : Array Value} {w : World} {K : Value → World → Prop} (hargs : args.size ≤ 39) (h : den Try.prog Try.f61.ntmps [] (bodyOf Try.f61) (retQ Try.prog Try.f61.results.toList K) (ev0 args.toList 0) w) : Fn Try.prog 61 args w K :=
  fn_of_den [] Try.func61 Try.isb61 Try.ok61 hargs h
end Go.V
