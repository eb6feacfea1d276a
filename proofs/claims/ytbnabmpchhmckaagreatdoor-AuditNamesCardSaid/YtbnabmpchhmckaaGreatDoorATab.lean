/-
  Closed facts of the tables and functions of this seat, written by a program of mine (gentab.py).
-/
import Derived.Test.YtbnabmpchhmckaaGreatDoorLibU
import Derived.Test.YtbnabmpchhmckaaGreatDoorProg
namespace Go.V
open Go.Proofs
set_option maxRecDepth 100000
theorem Tryz.agg3 : aggO Tryz.prog 3 = some false := by kernel_rfl
theorem Tryz.sz3 : szO Tryz.prog 3 = some 1 := by kernel_rfl
theorem Tryz.arr3 : arrO Tryz.prog 3 = none := by kernel_rfl
theorem Tryz.slc3 : slcO Tryz.prog 3 = none := by kernel_rfl
theorem Tryz.int3 : intO Tryz.prog 3 = some .i64 := by kernel_rfl
theorem Tryz.str3 : strO Tryz.prog 3 = false := by kernel_rfl
theorem Tryz.map3 : mapO Tryz.prog 3 = none := by kernel_rfl
theorem Tryz.flat3 : flatT Tryz.prog 3 = true := by kernel_rfl
theorem Tryz.bool3 : boolT Tryz.prog 3 = false := by kernel_rfl
theorem Tryz.iface3 : ifaceT Tryz.prog 3 = false := by kernel_rfl
theorem Tryz.zero3 : zeroO Tryz.prog 3 = some (.int .i64 0) := by kernel_rfl
theorem Tryz.places3 : placesO Tryz.prog 3 = none := by kernel_rfl
theorem Tryz.agg4 : aggO Tryz.prog 4 = some false := by kernel_rfl
theorem Tryz.sz4 : szO Tryz.prog 4 = some 1 := by kernel_rfl
theorem Tryz.arr4 : arrO Tryz.prog 4 = none := by kernel_rfl
theorem Tryz.slc4 : slcO Tryz.prog 4 = none := by kernel_rfl
theorem Tryz.int4 : intO Tryz.prog 4 = none := by kernel_rfl
theorem Tryz.str4 : strO Tryz.prog 4 = false := by kernel_rfl
theorem Tryz.map4 : mapO Tryz.prog 4 = none := by kernel_rfl
theorem Tryz.flat4 : flatT Tryz.prog 4 = true := by kernel_rfl
theorem Tryz.bool4 : boolT Tryz.prog 4 = true := by kernel_rfl
theorem Tryz.iface4 : ifaceT Tryz.prog 4 = false := by kernel_rfl
theorem Tryz.zero4 : zeroO Tryz.prog 4 = some (.bool false) := by kernel_rfl
theorem Tryz.places4 : placesO Tryz.prog 4 = none := by kernel_rfl
theorem Tryz.agg5 : aggO Tryz.prog 5 = some false := by kernel_rfl
theorem Tryz.sz5 : szO Tryz.prog 5 = some 1 := by kernel_rfl
theorem Tryz.arr5 : arrO Tryz.prog 5 = none := by kernel_rfl
theorem Tryz.slc5 : slcO Tryz.prog 5 = none := by kernel_rfl
theorem Tryz.int5 : intO Tryz.prog 5 = some .u8 := by kernel_rfl
theorem Tryz.str5 : strO Tryz.prog 5 = false := by kernel_rfl
theorem Tryz.map5 : mapO Tryz.prog 5 = none := by kernel_rfl
theorem Tryz.flat5 : flatT Tryz.prog 5 = true := by kernel_rfl
theorem Tryz.bool5 : boolT Tryz.prog 5 = false := by kernel_rfl
theorem Tryz.iface5 : ifaceT Tryz.prog 5 = false := by kernel_rfl
theorem Tryz.zero5 : zeroO Tryz.prog 5 = some (.int .u8 0) := by kernel_rfl
theorem Tryz.places5 : placesO Tryz.prog 5 = none := by kernel_rfl
theorem Tryz.agg9 : aggO Tryz.prog 9 = some false := by kernel_rfl
theorem Tryz.sz9 : szO Tryz.prog 9 = some 1 := by kernel_rfl
theorem Tryz.arr9 : arrO Tryz.prog 9 = none := by kernel_rfl
theorem Tryz.slc9 : slcO Tryz.prog 9 = none := by kernel_rfl
theorem Tryz.int9 : intO Tryz.prog 9 = none := by kernel_rfl
theorem Tryz.str9 : strO Tryz.prog 9 = true := by kernel_rfl
theorem Tryz.map9 : mapO Tryz.prog 9 = none := by kernel_rfl
theorem Tryz.flat9 : flatT Tryz.prog 9 = true := by kernel_rfl
theorem Tryz.bool9 : boolT Tryz.prog 9 = false := by kernel_rfl
theorem Tryz.iface9 : ifaceT Tryz.prog 9 = false := by kernel_rfl
theorem Tryz.zero9 : zeroO Tryz.prog 9 = some (.string ByteArray.empty) := by kernel_rfl
theorem Tryz.places9 : placesO Tryz.prog 9 = none := by kernel_rfl
theorem Tryz.agg22 : aggO Tryz.prog 22 = some false := by kernel_rfl
theorem Tryz.sz22 : szO Tryz.prog 22 = some 1 := by kernel_rfl
theorem Tryz.arr22 : arrO Tryz.prog 22 = none := by kernel_rfl
theorem Tryz.slc22 : slcO Tryz.prog 22 = some 89 := by kernel_rfl
theorem Tryz.int22 : intO Tryz.prog 22 = none := by kernel_rfl
theorem Tryz.str22 : strO Tryz.prog 22 = false := by kernel_rfl
theorem Tryz.map22 : mapO Tryz.prog 22 = none := by kernel_rfl
theorem Tryz.flat22 : flatT Tryz.prog 22 = false := by kernel_rfl
theorem Tryz.bool22 : boolT Tryz.prog 22 = false := by kernel_rfl
theorem Tryz.iface22 : ifaceT Tryz.prog 22 = false := by kernel_rfl
theorem Tryz.zero22 : zeroO Tryz.prog 22 = some (.slice none 0 0) := by kernel_rfl
theorem Tryz.places22 : placesO Tryz.prog 22 = none := by kernel_rfl
theorem Tryz.agg24 : aggO Tryz.prog 24 = some true := by kernel_rfl
theorem Tryz.sz24 : szO Tryz.prog 24 = some 10 := by kernel_rfl
theorem Tryz.arr24 : arrO Tryz.prog 24 = none := by kernel_rfl
theorem Tryz.slc24 : slcO Tryz.prog 24 = none := by kernel_rfl
theorem Tryz.int24 : intO Tryz.prog 24 = none := by kernel_rfl
theorem Tryz.str24 : strO Tryz.prog 24 = false := by kernel_rfl
theorem Tryz.map24 : mapO Tryz.prog 24 = none := by kernel_rfl
theorem Tryz.flat24 : flatT Tryz.prog 24 = false := by kernel_rfl
theorem Tryz.bool24 : boolT Tryz.prog 24 = false := by kernel_rfl
theorem Tryz.iface24 : ifaceT Tryz.prog 24 = false := by kernel_rfl
theorem Tryz.zero24 : zeroO Tryz.prog 24 = some (.agg (Array.replicate 9 (.int .i64 0) ++ #[.slice none 0 0])) := by kernel_rfl
theorem Tryz.places24 : placesO Tryz.prog 24 = some [(0, 1), (1, 1), (2, 1), (3, 1), (4, 1), (5, 1), (6, 1), (7, 1), (8, 1), (9, 1)] := by kernel_rfl
theorem Tryz.agg25 : aggO Tryz.prog 25 = some false := by kernel_rfl
theorem Tryz.sz25 : szO Tryz.prog 25 = some 1 := by kernel_rfl
theorem Tryz.arr25 : arrO Tryz.prog 25 = none := by kernel_rfl
theorem Tryz.slc25 : slcO Tryz.prog 25 = none := by kernel_rfl
theorem Tryz.int25 : intO Tryz.prog 25 = some .i64 := by kernel_rfl
theorem Tryz.str25 : strO Tryz.prog 25 = false := by kernel_rfl
theorem Tryz.map25 : mapO Tryz.prog 25 = none := by kernel_rfl
theorem Tryz.flat25 : flatT Tryz.prog 25 = true := by kernel_rfl
theorem Tryz.bool25 : boolT Tryz.prog 25 = false := by kernel_rfl
theorem Tryz.iface25 : ifaceT Tryz.prog 25 = false := by kernel_rfl
theorem Tryz.zero25 : zeroO Tryz.prog 25 = some (.int .i64 0) := by kernel_rfl
theorem Tryz.places25 : placesO Tryz.prog 25 = none := by kernel_rfl
theorem Tryz.agg28 : aggO Tryz.prog 28 = some false := by kernel_rfl
theorem Tryz.sz28 : szO Tryz.prog 28 = some 1 := by kernel_rfl
theorem Tryz.arr28 : arrO Tryz.prog 28 = none := by kernel_rfl
theorem Tryz.slc28 : slcO Tryz.prog 28 = some 5 := by kernel_rfl
theorem Tryz.int28 : intO Tryz.prog 28 = none := by kernel_rfl
theorem Tryz.str28 : strO Tryz.prog 28 = false := by kernel_rfl
theorem Tryz.map28 : mapO Tryz.prog 28 = none := by kernel_rfl
theorem Tryz.flat28 : flatT Tryz.prog 28 = false := by kernel_rfl
theorem Tryz.bool28 : boolT Tryz.prog 28 = false := by kernel_rfl
theorem Tryz.iface28 : ifaceT Tryz.prog 28 = false := by kernel_rfl
theorem Tryz.zero28 : zeroO Tryz.prog 28 = some (.slice none 0 0) := by kernel_rfl
theorem Tryz.places28 : placesO Tryz.prog 28 = none := by kernel_rfl
theorem Tryz.agg29 : aggO Tryz.prog 29 = some false := by kernel_rfl
theorem Tryz.sz29 : szO Tryz.prog 29 = some 1 := by kernel_rfl
theorem Tryz.arr29 : arrO Tryz.prog 29 = none := by kernel_rfl
theorem Tryz.slc29 : slcO Tryz.prog 29 = some 3 := by kernel_rfl
theorem Tryz.int29 : intO Tryz.prog 29 = none := by kernel_rfl
theorem Tryz.str29 : strO Tryz.prog 29 = false := by kernel_rfl
theorem Tryz.map29 : mapO Tryz.prog 29 = none := by kernel_rfl
theorem Tryz.flat29 : flatT Tryz.prog 29 = false := by kernel_rfl
theorem Tryz.bool29 : boolT Tryz.prog 29 = false := by kernel_rfl
theorem Tryz.iface29 : ifaceT Tryz.prog 29 = false := by kernel_rfl
theorem Tryz.zero29 : zeroO Tryz.prog 29 = some (.slice none 0 0) := by kernel_rfl
theorem Tryz.places29 : placesO Tryz.prog 29 = none := by kernel_rfl
theorem Tryz.agg39 : aggO Tryz.prog 39 = some true := by kernel_rfl
theorem Tryz.sz39 : szO Tryz.prog 39 = some 5 := by kernel_rfl
theorem Tryz.arr39 : arrO Tryz.prog 39 = none := by kernel_rfl
theorem Tryz.slc39 : slcO Tryz.prog 39 = none := by kernel_rfl
theorem Tryz.int39 : intO Tryz.prog 39 = none := by kernel_rfl
theorem Tryz.str39 : strO Tryz.prog 39 = false := by kernel_rfl
theorem Tryz.map39 : mapO Tryz.prog 39 = none := by kernel_rfl
theorem Tryz.flat39 : flatT Tryz.prog 39 = false := by kernel_rfl
theorem Tryz.bool39 : boolT Tryz.prog 39 = false := by kernel_rfl
theorem Tryz.iface39 : ifaceT Tryz.prog 39 = false := by kernel_rfl
theorem Tryz.zero39 : zeroO Tryz.prog 39 = some (.agg #[.int .i64 0, .int .i64 0, .int .i64 0, .int .i64 0, .int .i64 0]) := by kernel_rfl
theorem Tryz.places39 : placesO Tryz.prog 39 = some [(0, 1), (1, 1), (2, 1), (3, 1), (4, 1)] := by kernel_rfl
theorem Tryz.agg40 : aggO Tryz.prog 40 = some false := by kernel_rfl
theorem Tryz.sz40 : szO Tryz.prog 40 = some 1 := by kernel_rfl
theorem Tryz.arr40 : arrO Tryz.prog 40 = none := by kernel_rfl
theorem Tryz.slc40 : slcO Tryz.prog 40 = none := by kernel_rfl
theorem Tryz.int40 : intO Tryz.prog 40 = none := by kernel_rfl
theorem Tryz.str40 : strO Tryz.prog 40 = false := by kernel_rfl
theorem Tryz.map40 : mapO Tryz.prog 40 = some (3, 50) := by kernel_rfl
theorem Tryz.flat40 : flatT Tryz.prog 40 = false := by kernel_rfl
theorem Tryz.bool40 : boolT Tryz.prog 40 = false := by kernel_rfl
theorem Tryz.iface40 : ifaceT Tryz.prog 40 = false := by kernel_rfl
theorem Tryz.zero40 : zeroO Tryz.prog 40 = some (.map none) := by kernel_rfl
theorem Tryz.places40 : placesO Tryz.prog 40 = none := by kernel_rfl
theorem Tryz.agg41 : aggO Tryz.prog 41 = some false := by kernel_rfl
theorem Tryz.sz41 : szO Tryz.prog 41 = some 1 := by kernel_rfl
theorem Tryz.arr41 : arrO Tryz.prog 41 = none := by kernel_rfl
theorem Tryz.slc41 : slcO Tryz.prog 41 = none := by kernel_rfl
theorem Tryz.int41 : intO Tryz.prog 41 = none := by kernel_rfl
theorem Tryz.str41 : strO Tryz.prog 41 = false := by kernel_rfl
theorem Tryz.map41 : mapO Tryz.prog 41 = some (3, 52) := by kernel_rfl
theorem Tryz.flat41 : flatT Tryz.prog 41 = false := by kernel_rfl
theorem Tryz.bool41 : boolT Tryz.prog 41 = false := by kernel_rfl
theorem Tryz.iface41 : ifaceT Tryz.prog 41 = false := by kernel_rfl
theorem Tryz.zero41 : zeroO Tryz.prog 41 = some (.map none) := by kernel_rfl
theorem Tryz.places41 : placesO Tryz.prog 41 = none := by kernel_rfl
theorem Tryz.agg45 : aggO Tryz.prog 45 = some true := by kernel_rfl
theorem Tryz.sz45 : szO Tryz.prog 45 = some 12 := by kernel_rfl
theorem Tryz.arr45 : arrO Tryz.prog 45 = none := by kernel_rfl
theorem Tryz.slc45 : slcO Tryz.prog 45 = none := by kernel_rfl
theorem Tryz.int45 : intO Tryz.prog 45 = none := by kernel_rfl
theorem Tryz.str45 : strO Tryz.prog 45 = false := by kernel_rfl
theorem Tryz.map45 : mapO Tryz.prog 45 = none := by kernel_rfl
theorem Tryz.flat45 : flatT Tryz.prog 45 = false := by kernel_rfl
theorem Tryz.bool45 : boolT Tryz.prog 45 = false := by kernel_rfl
theorem Tryz.iface45 : ifaceT Tryz.prog 45 = false := by kernel_rfl
theorem Tryz.zero45 : zeroO Tryz.prog 45 = some (.agg #[.slice none 0 0, .int .i64 0, .int .i64 0, .int .i64 0, .int .i64 0, .int .i64 0, .map none, .map none, .slice none 0 0, .slice none 0 0, .slice none 0 0, .slice none 0 0]) := by kernel_rfl
theorem Tryz.places45 : placesO Tryz.prog 45 = some [(0, 1), (1, 5), (6, 1), (7, 1), (8, 1), (9, 1), (10, 1), (11, 1)] := by kernel_rfl
theorem Tryz.agg50 : aggO Tryz.prog 50 = some true := by kernel_rfl
theorem Tryz.sz50 : szO Tryz.prog 50 = some 102 := by kernel_rfl
theorem Tryz.arr50 : arrO Tryz.prog 50 = none := by kernel_rfl
theorem Tryz.slc50 : slcO Tryz.prog 50 = none := by kernel_rfl
theorem Tryz.int50 : intO Tryz.prog 50 = none := by kernel_rfl
theorem Tryz.str50 : strO Tryz.prog 50 = false := by kernel_rfl
theorem Tryz.map50 : mapO Tryz.prog 50 = none := by kernel_rfl
theorem Tryz.flat50 : flatT Tryz.prog 50 = false := by kernel_rfl
theorem Tryz.bool50 : boolT Tryz.prog 50 = false := by kernel_rfl
theorem Tryz.iface50 : ifaceT Tryz.prog 50 = false := by kernel_rfl
theorem Tryz.zero50 : zeroO Tryz.prog 50 = some (.agg (#[.int .i64 0, .int .i64 0, .int .i64 0, .int .i64 0, .int .i64 0] ++ Array.replicate 96 (.int .u8 0) ++ #[.slice none 0 0])) := by kernel_rfl
theorem Tryz.places50 : placesO Tryz.prog 50 = some [(0, 1), (1, 1), (2, 1), (3, 1), (4, 1), (5, 32), (37, 32), (69, 32), (101, 1)] := by kernel_rfl
theorem Tryz.agg52 : aggO Tryz.prog 52 = some true := by kernel_rfl
theorem Tryz.sz52 : szO Tryz.prog 52 = some 38 := by kernel_rfl
theorem Tryz.arr52 : arrO Tryz.prog 52 = none := by kernel_rfl
theorem Tryz.slc52 : slcO Tryz.prog 52 = none := by kernel_rfl
theorem Tryz.int52 : intO Tryz.prog 52 = none := by kernel_rfl
theorem Tryz.str52 : strO Tryz.prog 52 = false := by kernel_rfl
theorem Tryz.map52 : mapO Tryz.prog 52 = none := by kernel_rfl
theorem Tryz.flat52 : flatT Tryz.prog 52 = false := by kernel_rfl
theorem Tryz.bool52 : boolT Tryz.prog 52 = false := by kernel_rfl
theorem Tryz.iface52 : ifaceT Tryz.prog 52 = false := by kernel_rfl
theorem Tryz.zero52 : zeroO Tryz.prog 52 = some (.agg (#[.int .i64 0, .int .i64 0, .int .i64 0, .int .i64 0, .int .i64 0, .int .i64 0] ++ Array.replicate 32 (.int .u8 0))) := by kernel_rfl
theorem Tryz.places52 : placesO Tryz.prog 52 = some [(0, 1), (1, 1), (2, 1), (3, 1), (4, 1), (5, 1), (6, 32)] := by kernel_rfl
theorem Tryz.agg55 : aggO Tryz.prog 55 = some false := by kernel_rfl
theorem Tryz.sz55 : szO Tryz.prog 55 = some 1 := by kernel_rfl
theorem Tryz.arr55 : arrO Tryz.prog 55 = none := by kernel_rfl
theorem Tryz.slc55 : slcO Tryz.prog 55 = none := by kernel_rfl
theorem Tryz.int55 : intO Tryz.prog 55 = none := by kernel_rfl
theorem Tryz.str55 : strO Tryz.prog 55 = false := by kernel_rfl
theorem Tryz.map55 : mapO Tryz.prog 55 = some (3, 3) := by kernel_rfl
theorem Tryz.flat55 : flatT Tryz.prog 55 = false := by kernel_rfl
theorem Tryz.bool55 : boolT Tryz.prog 55 = false := by kernel_rfl
theorem Tryz.iface55 : ifaceT Tryz.prog 55 = false := by kernel_rfl
theorem Tryz.zero55 : zeroO Tryz.prog 55 = some (.map none) := by kernel_rfl
theorem Tryz.places55 : placesO Tryz.prog 55 = none := by kernel_rfl
theorem Tryz.agg64 : aggO Tryz.prog 64 = some false := by kernel_rfl
theorem Tryz.sz64 : szO Tryz.prog 64 = some 1 := by kernel_rfl
theorem Tryz.arr64 : arrO Tryz.prog 64 = none := by kernel_rfl
theorem Tryz.slc64 : slcO Tryz.prog 64 = none := by kernel_rfl
theorem Tryz.int64 : intO Tryz.prog 64 = none := by kernel_rfl
theorem Tryz.str64 : strO Tryz.prog 64 = false := by kernel_rfl
theorem Tryz.map64 : mapO Tryz.prog 64 = none := by kernel_rfl
theorem Tryz.flat64 : flatT Tryz.prog 64 = false := by kernel_rfl
theorem Tryz.bool64 : boolT Tryz.prog 64 = false := by kernel_rfl
theorem Tryz.iface64 : ifaceT Tryz.prog 64 = true := by kernel_rfl
theorem Tryz.zero64 : zeroO Tryz.prog 64 = some (.nilIface) := by kernel_rfl
theorem Tryz.places64 : placesO Tryz.prog 64 = none := by kernel_rfl
theorem Tryz.agg65 : aggO Tryz.prog 65 = some true := by kernel_rfl
theorem Tryz.sz65 : szO Tryz.prog 65 = some 2 := by kernel_rfl
theorem Tryz.arr65 : arrO Tryz.prog 65 = some (2, 64) := by kernel_rfl
theorem Tryz.slc65 : slcO Tryz.prog 65 = none := by kernel_rfl
theorem Tryz.int65 : intO Tryz.prog 65 = none := by kernel_rfl
theorem Tryz.str65 : strO Tryz.prog 65 = false := by kernel_rfl
theorem Tryz.map65 : mapO Tryz.prog 65 = none := by kernel_rfl
theorem Tryz.flat65 : flatT Tryz.prog 65 = false := by kernel_rfl
theorem Tryz.bool65 : boolT Tryz.prog 65 = false := by kernel_rfl
theorem Tryz.iface65 : ifaceT Tryz.prog 65 = false := by kernel_rfl
theorem Tryz.zero65 : zeroO Tryz.prog 65 = some (.agg #[.nilIface, .nilIface]) := by kernel_rfl
theorem Tryz.places65 : placesO Tryz.prog 65 = none := by kernel_rfl
theorem Tryz.agg89 : aggO Tryz.prog 89 = some true := by kernel_rfl
theorem Tryz.sz89 : szO Tryz.prog 89 = some 2 := by kernel_rfl
theorem Tryz.arr89 : arrO Tryz.prog 89 = none := by kernel_rfl
theorem Tryz.slc89 : slcO Tryz.prog 89 = none := by kernel_rfl
theorem Tryz.int89 : intO Tryz.prog 89 = none := by kernel_rfl
theorem Tryz.str89 : strO Tryz.prog 89 = false := by kernel_rfl
theorem Tryz.map89 : mapO Tryz.prog 89 = none := by kernel_rfl
theorem Tryz.flat89 : flatT Tryz.prog 89 = false := by kernel_rfl
theorem Tryz.bool89 : boolT Tryz.prog 89 = false := by kernel_rfl
theorem Tryz.iface89 : ifaceT Tryz.prog 89 = false := by kernel_rfl
theorem Tryz.zero89 : zeroO Tryz.prog 89 = some (.agg #[.int .i64 0, .int .i64 0]) := by kernel_rfl
theorem Tryz.places89 : placesO Tryz.prog 89 = some [(0, 1), (1, 1)] := by kernel_rfl
theorem Tryz.agg98 : aggO Tryz.prog 98 = some false := by kernel_rfl
theorem Tryz.sz98 : szO Tryz.prog 98 = some 1 := by kernel_rfl
theorem Tryz.arr98 : arrO Tryz.prog 98 = none := by kernel_rfl
theorem Tryz.slc98 : slcO Tryz.prog 98 = none := by kernel_rfl
theorem Tryz.int98 : intO Tryz.prog 98 = some .u32 := by kernel_rfl
theorem Tryz.str98 : strO Tryz.prog 98 = false := by kernel_rfl
theorem Tryz.map98 : mapO Tryz.prog 98 = none := by kernel_rfl
theorem Tryz.flat98 : flatT Tryz.prog 98 = true := by kernel_rfl
theorem Tryz.bool98 : boolT Tryz.prog 98 = false := by kernel_rfl
theorem Tryz.iface98 : ifaceT Tryz.prog 98 = false := by kernel_rfl
theorem Tryz.zero98 : zeroO Tryz.prog 98 = some (.int .u32 0) := by kernel_rfl
theorem Tryz.places98 : placesO Tryz.prog 98 = none := by kernel_rfl
theorem Tryz.agg102 : aggO Tryz.prog 102 = some true := by kernel_rfl
theorem Tryz.sz102 : szO Tryz.prog 102 = some 64 := by kernel_rfl
theorem Tryz.arr102 : arrO Tryz.prog 102 = some (64, 5) := by kernel_rfl
theorem Tryz.slc102 : slcO Tryz.prog 102 = none := by kernel_rfl
theorem Tryz.int102 : intO Tryz.prog 102 = none := by kernel_rfl
theorem Tryz.str102 : strO Tryz.prog 102 = false := by kernel_rfl
theorem Tryz.map102 : mapO Tryz.prog 102 = none := by kernel_rfl
theorem Tryz.flat102 : flatT Tryz.prog 102 = false := by kernel_rfl
theorem Tryz.bool102 : boolT Tryz.prog 102 = false := by kernel_rfl
theorem Tryz.iface102 : ifaceT Tryz.prog 102 = false := by kernel_rfl
theorem Tryz.zero102 : zeroO Tryz.prog 102 = some (.agg (Array.replicate 64 (.int .u8 0))) := by kernel_rfl
theorem Tryz.places102 : placesO Tryz.prog 102 = none := by kernel_rfl
theorem Tryz.agg144 : aggO Tryz.prog 144 = some true := by kernel_rfl
theorem Tryz.sz144 : szO Tryz.prog 144 = some 16 := by kernel_rfl
theorem Tryz.arr144 : arrO Tryz.prog 144 = some (16, 98) := by kernel_rfl
theorem Tryz.slc144 : slcO Tryz.prog 144 = none := by kernel_rfl
theorem Tryz.int144 : intO Tryz.prog 144 = none := by kernel_rfl
theorem Tryz.str144 : strO Tryz.prog 144 = false := by kernel_rfl
theorem Tryz.map144 : mapO Tryz.prog 144 = none := by kernel_rfl
theorem Tryz.flat144 : flatT Tryz.prog 144 = false := by kernel_rfl
theorem Tryz.bool144 : boolT Tryz.prog 144 = false := by kernel_rfl
theorem Tryz.iface144 : ifaceT Tryz.prog 144 = false := by kernel_rfl
theorem Tryz.zero144 : zeroO Tryz.prog 144 = some (.agg (Array.replicate 16 (.int .u32 0))) := by kernel_rfl
theorem Tryz.places144 : placesO Tryz.prog 144 = none := by kernel_rfl
theorem Tryz.fld24_4 : fieldO Tryz.prog 24 4 = some (4, 3) := by kernel_rfl
theorem Tryz.fld24_5 : fieldO Tryz.prog 24 5 = some (5, 3) := by kernel_rfl
theorem Tryz.fld24_6 : fieldO Tryz.prog 24 6 = some (6, 3) := by kernel_rfl
theorem Tryz.fld24_7 : fieldO Tryz.prog 24 7 = some (7, 3) := by kernel_rfl
theorem Tryz.fld39_0 : fieldO Tryz.prog 39 0 = some (0, 3) := by kernel_rfl
theorem Tryz.fld39_1 : fieldO Tryz.prog 39 1 = some (1, 3) := by kernel_rfl
theorem Tryz.fld39_2 : fieldO Tryz.prog 39 2 = some (2, 3) := by kernel_rfl
theorem Tryz.fld39_3 : fieldO Tryz.prog 39 3 = some (3, 3) := by kernel_rfl
theorem Tryz.fld39_4 : fieldO Tryz.prog 39 4 = some (4, 3) := by kernel_rfl
theorem Tryz.fld45_0 : fieldO Tryz.prog 45 0 = some (0, 28) := by kernel_rfl
theorem Tryz.fld45_1 : fieldO Tryz.prog 45 1 = some (1, 39) := by kernel_rfl
theorem Tryz.fld45_2 : fieldO Tryz.prog 45 2 = some (6, 40) := by kernel_rfl
theorem Tryz.fld45_3 : fieldO Tryz.prog 45 3 = some (7, 41) := by kernel_rfl
theorem Tryz.fld45_4 : fieldO Tryz.prog 45 4 = some (8, 29) := by kernel_rfl
theorem Tryz.fld45_6 : fieldO Tryz.prog 45 6 = some (10, 22) := by kernel_rfl
theorem Tryz.fld50_0 : fieldO Tryz.prog 50 0 = some (0, 3) := by kernel_rfl
theorem Tryz.fld52_0 : fieldO Tryz.prog 52 0 = some (0, 3) := by kernel_rfl
theorem Tryz.fld52_1 : fieldO Tryz.prog 52 1 = some (1, 3) := by kernel_rfl
theorem Tryz.cv5_3 : cvP Tryz.prog 5 3 = true := by kernel_rfl
theorem Tryz.cv5_98 : cvP Tryz.prog 5 98 = true := by kernel_rfl
theorem Tryz.cv28_9 : cvP Tryz.prog 28 9 = false := by kernel_rfl
theorem Tryz.cv98_5 : cvP Tryz.prog 98 5 = true := by kernel_rfl
theorem Tryz.app29_29 : AppT Tryz.prog #[29, 29] 3 1 8 (.int .i64 0) := ⟨⟨29, 29, rfl, rfl, by kernel_rfl, by kernel_rfl, by kernel_rfl⟩, by kernel_rfl, by kernel_rfl, by kernel_rfl, by kernel_rfl⟩
theorem Tryz.by3 : byO Tryz.prog 3 = some 8 := by kernel_rfl
theorem Tryz.by4 : byO Tryz.prog 4 = some 1 := by kernel_rfl
theorem Tryz.by5 : byO Tryz.prog 5 = some 1 := by kernel_rfl
theorem Tryz.by9 : byO Tryz.prog 9 = some 16 := by kernel_rfl
theorem Tryz.by22 : byO Tryz.prog 22 = some 24 := by kernel_rfl
theorem Tryz.by24 : byO Tryz.prog 24 = some 96 := by kernel_rfl
theorem Tryz.by25 : byO Tryz.prog 25 = some 8 := by kernel_rfl
theorem Tryz.by28 : byO Tryz.prog 28 = some 24 := by kernel_rfl
theorem Tryz.by29 : byO Tryz.prog 29 = some 24 := by kernel_rfl
theorem Tryz.by39 : byO Tryz.prog 39 = some 40 := by kernel_rfl
theorem Tryz.by40 : byO Tryz.prog 40 = some 8 := by kernel_rfl
theorem Tryz.by41 : byO Tryz.prog 41 = some 8 := by kernel_rfl
theorem Tryz.by45 : byO Tryz.prog 45 = some 176 := by kernel_rfl
theorem Tryz.by50 : byO Tryz.prog 50 = some 160 := by kernel_rfl
theorem Tryz.by52 : byO Tryz.prog 52 = some 80 := by kernel_rfl
theorem Tryz.by55 : byO Tryz.prog 55 = some 8 := by kernel_rfl
theorem Tryz.by64 : byO Tryz.prog 64 = some 16 := by kernel_rfl
theorem Tryz.by65 : byO Tryz.prog 65 = some 32 := by kernel_rfl
theorem Tryz.by89 : byO Tryz.prog 89 = some 16 := by kernel_rfl
theorem Tryz.by98 : byO Tryz.prog 98 = some 4 := by kernel_rfl
theorem Tryz.by102 : byO Tryz.prog 102 = some 64 := by kernel_rfl
theorem Tryz.by144 : byO Tryz.prog 144 = some 64 := by kernel_rfl
theorem Tryz.eqg102 : Tryz.prog.eqGuardType Tryz.prog.depth 102 = false := by kernel_rfl
attribute [go_sem] Tryz.agg3 Tryz.sz3 Tryz.arr3 Tryz.slc3 Tryz.int3 Tryz.str3 Tryz.map3 Tryz.flat3 Tryz.bool3 Tryz.iface3 Tryz.zero3 Tryz.places3 Tryz.agg4 Tryz.sz4 Tryz.arr4 Tryz.slc4 Tryz.int4 Tryz.str4 Tryz.map4 Tryz.flat4 Tryz.bool4 Tryz.iface4 Tryz.zero4 Tryz.places4 Tryz.agg5 Tryz.sz5 Tryz.arr5 Tryz.slc5 Tryz.int5 Tryz.str5 Tryz.map5 Tryz.flat5 Tryz.bool5 Tryz.iface5 Tryz.zero5 Tryz.places5 Tryz.agg9 Tryz.sz9 Tryz.arr9 Tryz.slc9 Tryz.int9 Tryz.str9 Tryz.map9 Tryz.flat9 Tryz.bool9 Tryz.iface9 Tryz.zero9 Tryz.places9 Tryz.agg22 Tryz.sz22 Tryz.arr22 Tryz.slc22 Tryz.int22 Tryz.str22 Tryz.map22 Tryz.flat22 Tryz.bool22 Tryz.iface22 Tryz.zero22 Tryz.places22 Tryz.agg24 Tryz.sz24 Tryz.arr24 Tryz.slc24 Tryz.int24 Tryz.str24 Tryz.map24 Tryz.flat24 Tryz.bool24 Tryz.iface24 Tryz.zero24 Tryz.places24 Tryz.agg25 Tryz.sz25 Tryz.arr25 Tryz.slc25 Tryz.int25 Tryz.str25 Tryz.map25 Tryz.flat25 Tryz.bool25 Tryz.iface25 Tryz.zero25 Tryz.places25 Tryz.agg28 Tryz.sz28 Tryz.arr28 Tryz.slc28 Tryz.int28 Tryz.str28 Tryz.map28 Tryz.flat28 Tryz.bool28 Tryz.iface28 Tryz.zero28 Tryz.places28 Tryz.agg29 Tryz.sz29 Tryz.arr29 Tryz.slc29 Tryz.int29 Tryz.str29 Tryz.map29 Tryz.flat29 Tryz.bool29 Tryz.iface29 Tryz.zero29 Tryz.places29 Tryz.agg39 Tryz.sz39 Tryz.arr39 Tryz.slc39 Tryz.int39 Tryz.str39 Tryz.map39 Tryz.flat39 Tryz.bool39 Tryz.iface39 Tryz.zero39 Tryz.places39 Tryz.agg40 Tryz.sz40 Tryz.arr40 Tryz.slc40 Tryz.int40 Tryz.str40 Tryz.map40 Tryz.flat40 Tryz.bool40 Tryz.iface40 Tryz.zero40 Tryz.places40 Tryz.agg41 Tryz.sz41 Tryz.arr41 Tryz.slc41 Tryz.int41 Tryz.str41 Tryz.map41 Tryz.flat41 Tryz.bool41 Tryz.iface41 Tryz.zero41 Tryz.places41 Tryz.agg45 Tryz.sz45 Tryz.arr45 Tryz.slc45 Tryz.int45 Tryz.str45 Tryz.map45 Tryz.flat45 Tryz.bool45 Tryz.iface45 Tryz.zero45 Tryz.places45 Tryz.agg50 Tryz.sz50 Tryz.arr50 Tryz.slc50 Tryz.int50 Tryz.str50 Tryz.map50 Tryz.flat50 Tryz.bool50 Tryz.iface50 Tryz.zero50 Tryz.places50 Tryz.agg52 Tryz.sz52 Tryz.arr52 Tryz.slc52 Tryz.int52 Tryz.str52 Tryz.map52 Tryz.flat52 Tryz.bool52 Tryz.iface52 Tryz.zero52 Tryz.places52 Tryz.agg55 Tryz.sz55 Tryz.arr55 Tryz.slc55 Tryz.int55 Tryz.str55 Tryz.map55 Tryz.flat55 Tryz.bool55 Tryz.iface55 Tryz.zero55 Tryz.places55 Tryz.agg64 Tryz.sz64 Tryz.arr64 Tryz.slc64 Tryz.int64 Tryz.str64 Tryz.map64 Tryz.flat64 Tryz.bool64 Tryz.iface64 Tryz.zero64 Tryz.places64 Tryz.agg65 Tryz.sz65 Tryz.arr65 Tryz.slc65 Tryz.int65 Tryz.str65 Tryz.map65 Tryz.flat65 Tryz.bool65 Tryz.iface65 Tryz.zero65 Tryz.places65 Tryz.agg89 Tryz.sz89 Tryz.arr89 Tryz.slc89 Tryz.int89 Tryz.str89 Tryz.map89 Tryz.flat89 Tryz.bool89 Tryz.iface89 Tryz.zero89 Tryz.places89 Tryz.agg98 Tryz.sz98 Tryz.arr98 Tryz.slc98 Tryz.int98 Tryz.str98 Tryz.map98 Tryz.flat98 Tryz.bool98 Tryz.iface98 Tryz.zero98 Tryz.places98 Tryz.agg102 Tryz.sz102 Tryz.arr102 Tryz.slc102 Tryz.int102 Tryz.str102 Tryz.map102 Tryz.flat102 Tryz.bool102 Tryz.iface102 Tryz.zero102 Tryz.places102 Tryz.agg144 Tryz.sz144 Tryz.arr144 Tryz.slc144 Tryz.int144 Tryz.str144 Tryz.map144 Tryz.flat144 Tryz.bool144 Tryz.iface144 Tryz.zero144 Tryz.places144 Tryz.fld24_4 Tryz.fld24_5 Tryz.fld24_6 Tryz.fld24_7 Tryz.fld39_0 Tryz.fld39_1 Tryz.fld39_2 Tryz.fld39_3 Tryz.fld39_4 Tryz.fld45_0 Tryz.fld45_1 Tryz.fld45_2 Tryz.fld45_3 Tryz.fld45_4 Tryz.fld45_6 Tryz.fld50_0 Tryz.fld52_0 Tryz.fld52_1 Tryz.cv5_3 Tryz.cv5_98 Tryz.cv28_9 Tryz.cv98_5 Tryz.eqg102
-- ledger/ledgerlaw17.AuditNames
theorem Tryz.pl3 : plainFn Tryz.prog 3 = true := by kernel_rfl
theorem Tryz.isb3 : Tryz.f3.body.isSome = true := by kernel_rfl
theorem Tryz.ok3 : codeOk Tryz.prog Tryz.f3.ntmps [] (bodyOf Tryz.f3) = true := by kernel_rfl
theorem Tryz.go3 {args : Array Value} {w : World} {K : Value → World → Prop} (hargs : args.size ≤ 43) : DenF Tryz.prog Tryz.f3 [] args w K → Fn Tryz.prog 3 args w K :=
  fn_of_denF [] Tryz.func3 Tryz.isb3 Tryz.ok3 Tryz.ntmps3 hargs
-- ledger/audit.Check
theorem Tryz.pl4 : plainFn Tryz.prog 4 = true := by kernel_rfl
theorem Tryz.isb4 : Tryz.f4.body.isSome = true := by kernel_rfl
theorem Tryz.ok4 : codeOk Tryz.prog Tryz.f4.ntmps [4, 11, 13] (bodyOf Tryz.f4) = true := by kernel_rfl
theorem Tryz.go4 {args : Array Value} {w : World} {K : Value → World → Prop} (hargs : args.size ≤ 91) : DenF Tryz.prog Tryz.f4 [4, 11, 13] args w K → Fn Tryz.prog 4 args w K :=
  fn_of_denF [4, 11, 13] Tryz.func4 Tryz.isb4 Tryz.ok4 Tryz.ntmps4 hargs
-- ledger/audit.Pages
theorem Tryz.pl5 : plainFn Tryz.prog 5 = true := by kernel_rfl
theorem Tryz.isb5 : Tryz.f5.body.isSome = true := by kernel_rfl
theorem Tryz.ok5 : codeOk Tryz.prog Tryz.f5.ntmps [] (bodyOf Tryz.f5) = true := by kernel_rfl
theorem Tryz.go5 {args : Array Value} {w : World} {K : Value → World → Prop} (hargs : args.size ≤ 47) : DenF Tryz.prog Tryz.f5 [] args w K → Fn Tryz.prog 5 args w K :=
  fn_of_denF [] Tryz.func5 Tryz.isb5 Tryz.ok5 Tryz.ntmps5 hargs
-- ledger/audit.Owner
theorem Tryz.pl6 : plainFn Tryz.prog 6 = true := by kernel_rfl
theorem Tryz.isb6 : Tryz.f6.body.isSome = true := by kernel_rfl
theorem Tryz.ok6 : codeOk Tryz.prog Tryz.f6.ntmps [] (bodyOf Tryz.f6) = true := by kernel_rfl
theorem Tryz.go6 {args : Array Value} {w : World} {K : Value → World → Prop} (hargs : args.size ≤ 51) : DenF Tryz.prog Tryz.f6 [] args w K → Fn Tryz.prog 6 args w K :=
  fn_of_denF [] Tryz.func6 Tryz.isb6 Tryz.ok6 Tryz.ntmps6 hargs
-- ledger/audit.Garbage
theorem Tryz.pl7 : plainFn Tryz.prog 7 = true := by kernel_rfl
theorem Tryz.isb7 : Tryz.f7.body.isSome = true := by kernel_rfl
theorem Tryz.ok7 : codeOk Tryz.prog Tryz.f7.ntmps [] (bodyOf Tryz.f7) = true := by kernel_rfl
theorem Tryz.go7 {args : Array Value} {w : World} {K : Value → World → Prop} (hargs : args.size ≤ 61) : DenF Tryz.prog Tryz.f7 [] args w K → Fn Tryz.prog 7 args w K :=
  fn_of_denF [] Tryz.func7 Tryz.isb7 Tryz.ok7 Tryz.ntmps7 hargs
-- ledger/audit.look
theorem Tryz.pl8 : plainFn Tryz.prog 8 = true := by kernel_rfl
theorem Tryz.isb8 : Tryz.f8.body.isSome = true := by kernel_rfl
theorem Tryz.ok8 : codeOk Tryz.prog Tryz.f8.ntmps [] (bodyOf Tryz.f8) = true := by kernel_rfl
theorem Tryz.go8 {args : Array Value} {w : World} {K : Value → World → Prop} (hargs : args.size ≤ 85) : DenF Tryz.prog Tryz.f8 [] args w K → Fn Tryz.prog 8 args w K :=
  fn_of_denF [] Tryz.func8 Tryz.isb8 Tryz.ok8 Tryz.ntmps8 hargs
-- ledger/audit.clean
theorem Tryz.pl9 : plainFn Tryz.prog 9 = true := by kernel_rfl
theorem Tryz.isb9 : Tryz.f9.body.isSome = true := by kernel_rfl
theorem Tryz.ok9 : codeOk Tryz.prog Tryz.f9.ntmps [] (bodyOf Tryz.f9) = true := by kernel_rfl
theorem Tryz.go9 {args : Array Value} {w : World} {K : Value → World → Prop} (hargs : args.size ≤ 23) : DenF Tryz.prog Tryz.f9 [] args w K → Fn Tryz.prog 9 args w K :=
  fn_of_denF [] Tryz.func9 Tryz.isb9 Tryz.ok9 Tryz.ntmps9 hargs
-- ledger/frame.Choose
theorem Tryz.pl14 : plainFn Tryz.prog 14 = true := by kernel_rfl
theorem Tryz.isb14 : Tryz.f14.body.isSome = true := by kernel_rfl
theorem Tryz.ok14 : codeOk Tryz.prog Tryz.f14.ntmps [] (bodyOf Tryz.f14) = true := by kernel_rfl
theorem Tryz.go14 {args : Array Value} {w : World} {K : Value → World → Prop} (hargs : args.size ≤ 50) : DenF Tryz.prog Tryz.f14 [] args w K → Fn Tryz.prog 14 args w K :=
  fn_of_denF [] Tryz.func14 Tryz.isb14 Tryz.ok14 Tryz.ntmps14 hargs
-- (*ledger/audit.sight).page
theorem Tryz.pl15 : plainFn Tryz.prog 15 = true := by kernel_rfl
theorem Tryz.isb15 : Tryz.f15.body.isSome = true := by kernel_rfl
theorem Tryz.ok15 : codeOk Tryz.prog Tryz.f15.ntmps [] (bodyOf Tryz.f15) = true := by kernel_rfl
theorem Tryz.go15 {args : Array Value} {w : World} {K : Value → World → Prop} (hargs : args.size ≤ 15) : DenF Tryz.prog Tryz.f15 [] args w K → Fn Tryz.prog 15 args w K :=
  fn_of_denF [] Tryz.func15 Tryz.isb15 Tryz.ok15 Tryz.ntmps15 hargs
-- ledger/frame.UnpackSuper
theorem Tryz.pl24 : plainFn Tryz.prog 24 = true := by kernel_rfl
theorem Tryz.isb24 : Tryz.f24.body.isSome = true := by kernel_rfl
theorem Tryz.ok24 : codeOk Tryz.prog Tryz.f24.ntmps [8] (bodyOf Tryz.f24) = true := by kernel_rfl
theorem Tryz.go24 {args : Array Value} {w : World} {K : Value → World → Prop} (hargs : args.size ≤ 55) : DenF Tryz.prog Tryz.f24 [8] args w K → Fn Tryz.prog 24 args w K :=
  fn_of_denF [8] Tryz.func24 Tryz.isb24 Tryz.ok24 Tryz.ntmps24 hargs
-- ledger/frame.empty
theorem Tryz.pl26 : plainFn Tryz.prog 26 = true := by kernel_rfl
theorem Tryz.isb26 : Tryz.f26.body.isSome = true := by kernel_rfl
theorem Tryz.ok26 : codeOk Tryz.prog Tryz.f26.ntmps [] (bodyOf Tryz.f26) = true := by kernel_rfl
theorem Tryz.go26 {args : Array Value} {w : World} {K : Value → World → Prop} (hargs : args.size ≤ 14) : DenF Tryz.prog Tryz.f26 [] args w K → Fn Tryz.prog 26 args w K :=
  fn_of_denF [] Tryz.func26 Tryz.isb26 Tryz.ok26 Tryz.ntmps26 hargs
-- ledger/crc.Whole
theorem Tryz.pl39 : plainFn Tryz.prog 39 = true := by kernel_rfl
theorem Tryz.isb39 : Tryz.f39.body.isSome = true := by kernel_rfl
theorem Tryz.ok39 : codeOk Tryz.prog Tryz.f39.ntmps [] (bodyOf Tryz.f39) = true := by kernel_rfl
theorem Tryz.go39 {args : Array Value} {w : World} {K : Value → World → Prop} (hargs : args.size ≤ 54) : DenF Tryz.prog Tryz.f39 [] args w K → Fn Tryz.prog 39 args w K :=
  fn_of_denF [] Tryz.func39 Tryz.isb39 Tryz.ok39 Tryz.ntmps39 hargs
-- ledger/crc.Sum
theorem Tryz.pl50 : plainFn Tryz.prog 50 = true := by kernel_rfl
theorem Tryz.isb50 : Tryz.f50.body.isSome = true := by kernel_rfl
theorem Tryz.ok50 : codeOk Tryz.prog Tryz.f50.ntmps [] (bodyOf Tryz.f50) = true := by kernel_rfl
theorem Tryz.go50 {args : Array Value} {w : World} {K : Value → World → Prop} (hargs : args.size ≤ 5) : DenF Tryz.prog Tryz.f50 [] args w K → Fn Tryz.prog 50 args w K :=
  fn_of_denF [] Tryz.func50 Tryz.isb50 Tryz.ok50 Tryz.ntmps50 hargs
-- ledger/crc.Update
theorem Tryz.pl58 : plainFn Tryz.prog 58 = true := by kernel_rfl
theorem Tryz.isb58 : Tryz.f58.body.isSome = true := by kernel_rfl
theorem Tryz.ok58 : codeOk Tryz.prog Tryz.f58.ntmps [] (bodyOf Tryz.f58) = true := by kernel_rfl
theorem Tryz.go58 {args : Array Value} {w : World} {K : Value → World → Prop} (hargs : args.size ≤ 10) : DenF Tryz.prog Tryz.f58 [] args w K → Fn Tryz.prog 58 args w K :=
  fn_of_denF [] Tryz.func58 Tryz.isb58 Tryz.ok58 Tryz.ntmps58 hargs
-- ledger/crc.feed
theorem Tryz.pl67 : plainFn Tryz.prog 67 = true := by kernel_rfl
theorem Tryz.isb67 : Tryz.f67.body.isSome = true := by kernel_rfl
theorem Tryz.ok67 : codeOk Tryz.prog Tryz.f67.ntmps [] (bodyOf Tryz.f67) = true := by kernel_rfl
theorem Tryz.go67 {args : Array Value} {w : World} {K : Value → World → Prop} (hargs : args.size ≤ 35) : DenF Tryz.prog Tryz.f67 [] args w K → Fn Tryz.prog 67 args w K :=
  fn_of_denF [] Tryz.func67 Tryz.isb67 Tryz.ok67 Tryz.ntmps67 hargs
end Go.V
