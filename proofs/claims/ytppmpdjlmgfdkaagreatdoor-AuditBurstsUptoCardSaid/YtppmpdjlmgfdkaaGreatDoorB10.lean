/- Helpers. -/
import Derived.Test.YtppmpdjlmgfdkaaGreatDoorProg
import Derived.Test.YtppmpdjlmgfdkaaGreatDoorB07
set_option linter.all false
set_option maxRecDepth 100000
set_option maxHeartbeats 8000000
open Array renaming replicate->jA
namespace Go.V
open Go.Proofs.Tryz
section
open Go.Proofs
theorem Tryz.agg3:aggO prog 3=some false:=x8
theorem Tryz.sz3:szO prog 3=some 1:=x8
theorem Tryz.int3:intO prog 3=some .i64:=x8
theorem Tryz.flat3:flatT prog 3=true:=x8
theorem Tryz.bool3:boolT prog 3=false:=x8
theorem Tryz.zero3:zeroO prog 3=some (.int .i64 0):=x8
theorem Tryz.agg4:aggO prog 4=some false:=x8
theorem Tryz.agg5:aggO prog 5=some false:=x8
theorem Tryz.sz5:szO prog 5=some 1:=x8
theorem Tryz.int5:intO prog 5=some .u8:=x8
theorem Tryz.flat5:flatT prog 5=true:=x8
theorem Tryz.bool5:boolT prog 5=false:=x8
theorem Tryz.zero5:zeroO prog 5=some (.int .u8 0):=x8
theorem Tryz.arr9:arrO prog 9=none:=x8
theorem Tryz.str9:strO prog 9=true:=x8
theorem Tryz.map9:mapO prog 9=none:=x8
theorem Tryz.flat9:flatT prog 9=true:=x8
theorem Tryz.agg22:aggO prog 22=some false:=x8
theorem Tryz.sz22:szO prog 22=some 1:=x8
theorem Tryz.arr22:arrO prog 22=none:=x8
theorem Tryz.slc22:slcO prog 22=some 5:=x8
theorem Tryz.map22:mapO prog 22=none:=x8
theorem Tryz.flat22:flatT prog 22=false:=x8
theorem Tryz.agg23:aggO prog 23=some false:=x8
theorem Tryz.sz23:szO prog 23=some 1:=x8
theorem Tryz.arr23:arrO prog 23=none:=x8
theorem Tryz.slc23:slcO prog 23=some 43:=x8
theorem Tryz.map23:mapO prog 23=none:=x8
theorem Tryz.agg25:aggO prog 25=some true:=x8
theorem Tryz.sz25:szO prog 25=some 10:=x8
theorem Tryz.zero25:zeroO prog 25=some (.agg (jA 9 (.int .i64 0)++#[.slice none 0 0])):=x8
theorem Tryz.places25:qXh prog 25=some [(0,1),(1,1),(2,1),(3,1),(4,1),(5,1),(6,1),(7,1),(8,1),(9,1)]:=x8
theorem Tryz.agg26:aggO prog 26=some false:=x8
theorem Tryz.int26:intO prog 26=some .i64:=x8
theorem Tryz.flat26:flatT prog 26=true:=x8
theorem Tryz.bool26:boolT prog 26=false:=x8
theorem Tryz.arr33:arrO prog 33=none:=x8
theorem Tryz.slc33:slcO prog 33=some 95:=x8
theorem Tryz.map33:mapO prog 33=none:=x8
theorem Tryz.agg34:aggO prog 34=some false:=x8
theorem Tryz.sz34:szO prog 34=some 1:=x8
theorem Tryz.int34:intO prog 34=some .u32:=x8
theorem Tryz.flat34:flatT prog 34=true:=x8
theorem Tryz.arr37:arrO prog 37=none:=x8
theorem Tryz.slc37:slcO prog 37=some 84:=x8
theorem Tryz.map37:mapO prog 37=none:=x8
theorem Tryz.int39:intO prog 39=some .u64:=x8
theorem Tryz.flat39:flatT prog 39=true:=x8
theorem Tryz.agg43:aggO prog 43=some true:=x8
theorem Tryz.sz43:szO prog 43=some 2:=x8
theorem Tryz.flat43:flatT prog 43=false:=x8
theorem Tryz.zero43:zeroO prog 43=some (.agg #[.int .i64 0,.int .i64 0]):=x8
theorem Tryz.places43:qXh prog 43=some [(0,1),(1,1)]:=x8
theorem Tryz.agg45:aggO prog 45=some false:=x8
theorem Tryz.sz45:szO prog 45=some 1:=x8
theorem Tryz.arr45:arrO prog 45=none:=x8
theorem Tryz.slc45:slcO prog 45=some 3:=x8
theorem Tryz.map45:mapO prog 45=none:=x8
theorem Tryz.agg63:aggO prog 63=some false:=x8
theorem Tryz.agg67:aggO prog 67=some true:=x8
theorem Tryz.sz67:szO prog 67=some 5:=x8
theorem Tryz.flat67:flatT prog 67=false:=x8
theorem Tryz.zero67:zeroO prog 67=some (.agg #[.int .i64 0,.int .i64 0,.int .i64 0,.int .i64 0,.int .i64 0]):=x8
theorem Tryz.places67:qXh prog 67=some [(0,1),(1,1),(2,1),(3,1),(4,1)]:=x8
theorem Tryz.agg68:aggO prog 68=some false:=x8
theorem Tryz.map68:mapO prog 68=some (3,78):=x8
theorem Tryz.agg69:aggO prog 69=some false:=x8
theorem Tryz.map69:mapO prog 69=some (3,80):=x8
theorem Tryz.agg70:aggO prog 70=some false:=x8
theorem Tryz.sz70:szO prog 70=some 1:=x8
theorem Tryz.arr70:arrO prog 70=none:=x8
theorem Tryz.slc70:slcO prog 70=some 156:=x8
theorem Tryz.agg71:aggO prog 71=some false:=x8
theorem Tryz.sz71:szO prog 71=some 1:=x8
theorem Tryz.arr71:arrO prog 71=none:=x8
theorem Tryz.slc71:slcO prog 71=some 75:=x8
theorem Tryz.map71:mapO prog 71=none:=x8
theorem Tryz.flat71:flatT prog 71=false:=x8
theorem Tryz.zero73:zeroO prog 73=some (.agg #[.slice none 0 0,.int .i64 0,.int .i64 0,.int .i64 0,.int .i64 0,.int .i64 0,.map none,.map none,.slice none 0 0,.slice none 0 0,.slice none 0 0,.slice none 0 0]):=x8
theorem Tryz.places73:qXh prog 73=some [(0,1),(1,5),(6,1),(7,1),(8,1),(9,1),(10,1),(11,1)]:=x8
theorem Tryz.agg75:aggO prog 75=some true:=x8
theorem Tryz.sz75:szO prog 75=some 32:=x8
theorem Tryz.arr75:arrO prog 75=some (32,5):=x8
theorem Tryz.flat75:flatT prog 75=false:=x8
theorem Tryz.zero75:zeroO prog 75=some (.agg (jA 32 (.int .u8 0))):=x8
theorem Tryz.agg76:aggO prog 76=some true:=x8
theorem Tryz.sz76:szO prog 76=some 32:=x8
theorem Tryz.arr76:arrO prog 76=some (32,5):=x8
theorem Tryz.slc76:slcO prog 76=none:=x8
theorem Tryz.map76:mapO prog 76=none:=x8
theorem Tryz.flat76:flatT prog 76=false:=x8
theorem Tryz.iface76:qKp prog 76=false:=x8
theorem Tryz.zero76:zeroO prog 76=some (.agg (jA 32 (.int .u8 0))):=x8
theorem Tryz.agg78:aggO prog 78=some true:=x8
theorem Tryz.sz78:szO prog 78=some 102:=x8
theorem Tryz.zero78:zeroO prog 78=some (.agg (#[.int .i64 0,.int .i64 0,.int .i64 0,.int .i64 0,.int .i64 0]++jA 96 (.int .u8 0)++#[.slice none 0 0])):=x8
theorem Tryz.places78:qXh prog 78=some [(0,1),(1,1),(2,1),(3,1),(4,1),(5,32),(37,32),(69,32),(101,1)]:=x8
theorem Tryz.agg80:aggO prog 80=some true:=x8
theorem Tryz.sz80:szO prog 80=some 38:=x8
theorem Tryz.zero80:zeroO prog 80=some (.agg (#[.int .i64 0,.int .i64 0,.int .i64 0,.int .i64 0,.int .i64 0,.int .i64 0]++jA 32 (.int .u8 0))):=x8
theorem Tryz.places80:qXh prog 80=some [(0,1),(1,1),(2,1),(3,1),(4,1),(5,1),(6,32)]:=x8
theorem Tryz.agg83:aggO prog 83=some true:=x8
theorem Tryz.sz83:szO prog 83=some 33:=x8
theorem Tryz.zero83:zeroO prog 83=some (.agg (jA 32 (.int .u8 0)++#[.slice none 0 0])):=x8
theorem Tryz.places83:qXh prog 83=some [(0,32),(32,1)]:=x8
theorem Tryz.agg84:aggO prog 84=some false:=x8
theorem Tryz.sz84:szO prog 84=some 1:=x8
theorem Tryz.arr84:arrO prog 84=none:=x8
theorem Tryz.slc84:slcO prog 84=some 83:=x8
theorem Tryz.map84:mapO prog 84=none:=x8
theorem Tryz.zero84:zeroO prog 84=some (.slice none 0 0):=x8
theorem Tryz.agg88:aggO prog 88=some false:=x8
theorem Tryz.sz88:szO prog 88=some 1:=x8
theorem Tryz.arr88:arrO prog 88=none:=x8
theorem Tryz.slc88:slcO prog 88=some 78:=x8
theorem Tryz.map88:mapO prog 88=none:=x8
theorem Tryz.arr89:arrO prog 89=none:=x8
theorem Tryz.slc89:slcO prog 89=some 80:=x8
theorem Tryz.map89:mapO prog 89=none:=x8
theorem Tryz.agg95:aggO prog 95=some false:=x8
theorem Tryz.sz95:szO prog 95=some 1:=x8
theorem Tryz.arr95:arrO prog 95=none:=x8
theorem Tryz.slc95:slcO prog 95=some 134:=x8
theorem Tryz.str95:strO prog 95=false:=x8
theorem Tryz.map95:mapO prog 95=none:=x8
theorem Tryz.sz119:szO prog 119=some 1:=x8
theorem Tryz.agg120:aggO prog 120=some true:=x8
theorem Tryz.sz120:szO prog 120=some 2:=x8
theorem Tryz.arr120:arrO prog 120=some (2,119):=x8
theorem Tryz.zero120:zeroO prog 120=some (.agg #[.nilIface,.nilIface]):=x8
theorem Tryz.places120:qXh prog 120=none:=x8
theorem Tryz.agg134:aggO prog 134=some true:=x8
theorem Tryz.sz134:szO prog 134=some 34:=x8
theorem Tryz.zero134:zeroO prog 134=some (.agg (jA 32 (.int .u8 0)++#[.bool false,.slice none 0 0])):=x8
theorem Tryz.places134:qXh prog 134=some [(0,32),(32,1),(33,1)]:=x8
theorem Tryz.agg139:aggO prog 139=some false:=x8
theorem Tryz.sz139:szO prog 139=some 1:=x8
theorem Tryz.arr139:arrO prog 139=none:=x8
theorem Tryz.slc139:slcO prog 139=some 229:=x8
theorem Tryz.map139:mapO prog 139=none:=x8
theorem Tryz.agg141:aggO prog 141=some true:=x8
theorem Tryz.sz141:szO prog 141=some 3:=x8
theorem Tryz.zero141:zeroO prog 141=some (.agg #[.int .i64 0,.slice none 0 0,.slice none 0 0]):=x8
theorem Tryz.places141:qXh prog 141=some [(0,1),(1,1),(2,1)]:=x8
theorem Tryz.agg152:aggO prog 152=some false:=x8
theorem Tryz.map152:mapO prog 152=some (158,3):=x8
theorem Tryz.agg153:aggO prog 153=some false:=x8
theorem Tryz.map153:mapO prog 153=some (76,3):=x8
theorem Tryz.zero155:zeroO prog 155=some (.agg #[.map none,.map none]):=x8
theorem Tryz.places155:qXh prog 155=some [(0,1),(1,1)]:=x8
theorem Tryz.agg156:aggO prog 156=some false:=x8
theorem Tryz.sz156:szO prog 156=some 1:=x8
theorem Tryz.zero156:zeroO prog 156=some (.pointer none):=x8
theorem Tryz.agg158:aggO prog 158=some true:=x8
theorem Tryz.sz158:szO prog 158=some 33:=x8
theorem Tryz.zero158:zeroO prog 158=some (.agg (#[.int .i64 0]++jA 32 (.int .u8 0))):=x8
theorem Tryz.places158:qXh prog 158=some [(0,1),(1,32)]:=x8
theorem Tryz.agg173:aggO prog 173=some true:=x8
theorem Tryz.iface173:qKp prog 173=false:=x8
theorem Tryz.zero173:zeroO prog 173=some (.agg #[]):=x8
theorem Tryz.places173:qXh prog 173=some []:=x8
theorem Tryz.agg174:aggO prog 174=some true:=x8
theorem Tryz.iface174:qKp prog 174=false:=x8
theorem Tryz.zero174:zeroO prog 174=some (.agg #[]):=x8
theorem Tryz.places174:qXh prog 174=some []:=x8
theorem Tryz.zero187:zeroO prog 187=some (.agg #[.int .i64 0,.int .i64 0,.slice none 0 0,.int .i64 0,.slice none 0 0,.slice none 0 0,.slice none 0 0,.slice none 0 0]):=x8
theorem Tryz.places187:qXh prog 187=some [(0,1),(1,1),(2,1),(3,3),(6,1),(7,1)]:=x8
theorem Tryz.agg201:aggO prog 201=some false:=x8
theorem Tryz.sz201:szO prog 201=some 1:=x8
theorem Tryz.int201:intO prog 201=some .u64:=x8
theorem Tryz.flat201:flatT prog 201=true:=x8
theorem Tryz.arr208:arrO prog 208=some (64,5):=x8
theorem Tryz.agg209:aggO prog 209=some true:=x8
theorem Tryz.sz209:szO prog 209=some 64:=x8
theorem Tryz.arr209:arrO prog 209=some (64,5):=x8
theorem Tryz.flat209:flatT prog 209=false:=x8
theorem Tryz.zero209:zeroO prog 209=some (.agg (jA 64 (.int .u8 0))):=x8
theorem Tryz.places209:qXh prog 209=none:=x8
theorem Tryz.zero213:zeroO prog 213=some (.agg #[.pointer none,.pointer none,.pointer none,.int .i64 0,.int .i64 0]):=x8
theorem Tryz.places213:qXh prog 213=some [(0,1),(1,1),(2,1),(3,1),(4,1)]:=x8
theorem Tryz.agg217:aggO prog 217=some true:=x8
theorem Tryz.sz217:szO prog 217=some 35:=x8
theorem Tryz.zero217:zeroO prog 217=some (.agg (#[.int .i64 0,.int .i64 0,.int .i64 0]++jA 32 (.int .u8 0))):=x8
theorem Tryz.agg229:aggO prog 229=some true:=x8
theorem Tryz.sz229:szO prog 229=some 66:=x8
theorem Tryz.zero229:zeroO prog 229=some (.agg (#[.int .i64 0,.int .i64 0]++jA 64 (.int .u8 0))):=x8
theorem Tryz.agg240:aggO prog 240=some false:=x8
theorem Tryz.sz240:szO prog 240=some 1:=x8
theorem Tryz.agg250:aggO prog 250=some true:=x8
theorem Tryz.sz250:szO prog 250=some 8:=x8
theorem Tryz.arr250:arrO prog 250=some (8,34):=x8
theorem Tryz.zero250:zeroO prog 250=some (.agg #[.int .u32 0,.int .u32 0,.int .u32 0,.int .u32 0,.int .u32 0,.int .u32 0,.int .u32 0,.int .u32 0]):=x8
theorem Tryz.places250:qXh prog 250=none:=x8
theorem Tryz.agg251:aggO prog 251=some true:=x8
theorem Tryz.sz251:szO prog 251=some 64:=x8
theorem Tryz.arr251:arrO prog 251=some (64,34):=x8
theorem Tryz.zero251:zeroO prog 251=some (.agg (jA 64 (.int .u32 0))):=x8
theorem Tryz.arr256:arrO prog 256=some (33,5):=x8
theorem Tryz.agg265:aggO prog 265=some true:=x8
theorem Tryz.sz265:szO prog 265=some 74:=x8
theorem Tryz.zero265:zeroO prog 265=some (.agg (#[.int .u32 0,.int .u32 0,.int .u32 0,.int .u32 0,.int .u32 0,.int .u32 0,.int .u32 0,.int .u32 0]++jA 64 (.int .u8 0)++#[.int .i64 0,.int .u64 0])):=x8
theorem Tryz.sz268:szO prog 268=some 16:=x8
theorem Tryz.arr268:arrO prog 268=some (16,34):=x8
theorem Tryz.zero268:zeroO prog 268=some (.agg (jA 16 (.int .u32 0))):=x8
theorem Tryz.places268:qXh prog 268=none:=x8
theorem Tryz.arr270:arrO prog 270=some (128,5):=x8
theorem Tryz.zero270:zeroO prog 270=some (.agg (jA 128 (.int .u8 0))):=x8
theorem Tryz.arr308:arrO prog 308=some (6,240):=x8
theorem Tryz.zero308:zeroO prog 308=some (.agg #[.pointer none,.pointer none,.pointer none,.pointer none,.pointer none,.pointer none]):=x8
theorem Tryz.places308:qXh prog 308=none:=x8
theorem Tryz.flat310:flatT prog 310=false:=x8
theorem Tryz.iface310:qKp prog 310=true:=x8
theorem Tryz.agg315:aggO prog 315=some true:=x8
theorem Tryz.sz315:szO prog 315=some 33:=x8
theorem Tryz.iface315:qKp prog 315=false:=x8
theorem Tryz.zero315:zeroO prog 315=some (.agg (jA 32 (.int .u8 0)++#[.slice none 0 0])):=x8
theorem Tryz.places315:qXh prog 315=some [(0,32),(32,1)]:=x8
theorem Tryz.agg318:aggO prog 318=some true:=x8
theorem Tryz.sz318:szO prog 318=some 34:=x8
theorem Tryz.flat318:flatT prog 318=false:=x8
theorem Tryz.zero318:zeroO prog 318=some (.agg (#[.int .i64 0,.int .i64 0]++jA 32 (.int .u8 0))):=x8
theorem Tryz.places318:qXh prog 318=some [(0,1),(1,1),(2,32)]:=x8
theorem Tryz.agg320:aggO prog 320=some true:=x8
theorem Tryz.sz320:szO prog 320=some 68:=x8
theorem Tryz.iface320:qKp prog 320=false:=x8
theorem Tryz.zero320:zeroO prog 320=some (.agg (#[.int .i64 0,.int .i64 0]++jA 32 (.int .u8 0)++#[.int .i64 0,.int .i64 0]++jA 32 (.int .u8 0))):=x8
theorem Tryz.places320:qXh prog 320=some [(0,34),(34,34)]:=x8
theorem Tryz.fld25_0:qQo prog 25 0=some (0,3):=x8
theorem Tryz.fld25_1:qQo prog 25 1=some (1,3):=x8
theorem Tryz.fld25_2:qQo prog 25 2=some (2,3):=x8
theorem Tryz.fld25_3:qQo prog 25 3=some (3,3):=x8
theorem Tryz.fld25_4:qQo prog 25 4=some (4,3):=x8
theorem Tryz.fld25_5:qQo prog 25 5=some (5,3):=x8
theorem Tryz.fld25_6:qQo prog 25 6=some (6,3):=x8
theorem Tryz.fld25_7:qQo prog 25 7=some (7,3):=x8
theorem Tryz.fld25_8:qQo prog 25 8=some (8,3):=x8
theorem Tryz.fld25_9:qQo prog 25 9=some (9,23):=x8
theorem Tryz.fld67_0:qQo prog 67 0=some (0,3):=x8
theorem Tryz.fld67_1:qQo prog 67 1=some (1,3):=x8
theorem Tryz.fld67_2:qQo prog 67 2=some (2,3):=x8
theorem Tryz.fld67_3:qQo prog 67 3=some (3,3):=x8
theorem Tryz.fld67_4:qQo prog 67 4=some (4,3):=x8
theorem Tryz.fld73_0:qQo prog 73 0=some (0,22):=x8
theorem Tryz.fld73_1:qQo prog 73 1=some (1,67):=x8
theorem Tryz.fld73_2:qQo prog 73 2=some (6,68):=x8
theorem Tryz.fld73_3:qQo prog 73 3=some (7,69):=x8
theorem Tryz.fld73_4:qQo prog 73 4=some (8,45):=x8
theorem Tryz.fld73_5:qQo prog 73 5=some (9,70):=x8
theorem Tryz.fld73_6:qQo prog 73 6=some (10,23):=x8
theorem Tryz.fld73_7:qQo prog 73 7=some (11,71):=x8
theorem Tryz.fld78_0:qQo prog 78 0=some (0,3):=x8
theorem Tryz.fld78_1:qQo prog 78 1=some (1,3):=x8
theorem Tryz.fld78_2:qQo prog 78 2=some (2,3):=x8
theorem Tryz.fld78_3:qQo prog 78 3=some (3,3):=x8
theorem Tryz.fld78_4:qQo prog 78 4=some (4,3):=x8
theorem Tryz.fld78_5:qQo prog 78 5=some (5,75):=x8
theorem Tryz.fld78_6:qQo prog 78 6=some (37,75):=x8
theorem Tryz.fld78_7:qQo prog 78 7=some (69,76):=x8
theorem Tryz.fld78_8:qQo prog 78 8=some (101,22):=x8
theorem Tryz.fld80_0:qQo prog 80 0=some (0,3):=x8
theorem Tryz.fld80_1:qQo prog 80 1=some (1,3):=x8
theorem Tryz.fld80_2:qQo prog 80 2=some (2,3):=x8
theorem Tryz.fld80_3:qQo prog 80 3=some (3,3):=x8
theorem Tryz.fld80_4:qQo prog 80 4=some (4,3):=x8
theorem Tryz.fld80_5:qQo prog 80 5=some (5,3):=x8
theorem Tryz.fld80_6:qQo prog 80 6=some (6,75):=x8
theorem Tryz.fld83_0:qQo prog 83 0=some (0,76):=x8
theorem Tryz.fld83_1:qQo prog 83 1=some (32,22):=x8
theorem Tryz.fld134_0:qQo prog 134 0=some (0,76):=x8
theorem Tryz.fld134_1:qQo prog 134 1=some (32,4):=x8
theorem Tryz.fld134_2:qQo prog 134 2=some (33,22):=x8
theorem Tryz.fld141_0:qQo prog 141 0=some (0,3):=x8
theorem Tryz.fld141_1:qQo prog 141 1=some (1,84):=x8
theorem Tryz.fld141_2:qQo prog 141 2=some (2,139):=x8
theorem Tryz.fld155_0:qQo prog 155 0=some (0,152):=x8
theorem Tryz.fld155_1:qQo prog 155 1=some (1,153):=x8
theorem Tryz.fld158_0:qQo prog 158 0=some (0,3):=x8
theorem Tryz.fld158_1:qQo prog 158 1=some (1,76):=x8
theorem Tryz.fld187_0:qQo prog 187 0=some (0,3):=x8
theorem Tryz.fld187_1:qQo prog 187 1=some (1,3):=x8
theorem Tryz.fld187_2:qQo prog 187 2=some (2,71):=x8
theorem Tryz.fld187_3:qQo prog 187 3=some (3,141):=x8
theorem Tryz.fld187_4:qQo prog 187 4=some (6,88):=x8
theorem Tryz.fld187_5:qQo prog 187 5=some (7,139):=x8
theorem Tryz.fld213_0:qQo prog 213 0=some (0,63):=x8
theorem Tryz.fld213_1:qQo prog 213 1=some (1,156):=x8
theorem Tryz.fld213_2:qQo prog 213 2=some (2,156):=x8
theorem Tryz.fld213_3:qQo prog 213 3=some (3,3):=x8
theorem Tryz.fld213_4:qQo prog 213 4=some (4,3):=x8
theorem Tryz.fld217_0:qQo prog 217 0=some (0,3):=x8
theorem Tryz.fld217_1:qQo prog 217 1=some (1,3):=x8
theorem Tryz.fld217_2:qQo prog 217 2=some (2,3):=x8
theorem Tryz.fld217_3:qQo prog 217 3=some (3,75):=x8
theorem Tryz.fld229_0:qQo prog 229 0=some (0,3):=x8
theorem Tryz.fld229_1:qQo prog 229 1=some (1,3):=x8
theorem Tryz.fld229_2:qQo prog 229 2=some (2,76):=x8
theorem Tryz.fld229_3:qQo prog 229 3=some (34,75):=x8
theorem Tryz.fld265_0:qQo prog 265 0=some (0,250):=x8
theorem Tryz.fld265_1:qQo prog 265 1=some (8,208):=x8
theorem Tryz.fld265_2:qQo prog 265 2=some (72,3):=x8
theorem Tryz.fld265_3:qQo prog 265 3=some (73,201):=x8
theorem Tryz.fld315_0:qQo prog 315 0=some (0,76):=x8
theorem Tryz.fld315_1:qQo prog 315 1=some (32,22):=x8
theorem Tryz.fld318_0:qQo prog 318 0=some (0,3):=x8
theorem Tryz.fld318_1:qQo prog 318 1=some (1,3):=x8
theorem Tryz.fld318_2:qQo prog 318 2=some (2,75):=x8
theorem Tryz.fld320_0:qQo prog 320 0=some (0,318):=x8
theorem Tryz.fld320_1:qQo prog 320 1=some (34,318):=x8
theorem Tryz.cv3_5:cvP prog 3 5=true:=x8
theorem Tryz.cv3_39:cvP prog 3 39=true:=x8
theorem Tryz.cv3_201:cvP prog 3 201=true:=x8
theorem Tryz.cv5_3:cvP prog 5 3=true:=x8
theorem Tryz.cv5_34:cvP prog 5 34=true:=x8
theorem Tryz.cv22_9:cvP prog 22 9=false:=x8
theorem Tryz.cv34_5:cvP prog 34 5=true:=x8
theorem Tryz.cv201_5:cvP prog 201 5=true:=x8
theorem Tryz.app22_22:AppT prog #[22,22] 5 1 1 (.int .u8 0):=⟨⟨22,22,rfl,rfl,x8,x8,x8⟩,x8,x8,x8,x8⟩
theorem Tryz.app23_23:AppT prog #[23,23] 43 2 16 (.agg #[.int .i64 0,.int .i64 0]):=⟨⟨23,23,rfl,rfl,x8,x8,x8⟩,x8,x8,x8,x8⟩
theorem Tryz.app37_37:AppT prog #[37,37] 84 1 24 (.slice none 0 0):=⟨⟨37,37,rfl,rfl,x8,x8,x8⟩,x8,x8,x8,x8⟩
theorem Tryz.app45_45:AppT prog #[45,45] 3 1 8 (.int .i64 0):=⟨⟨45,45,rfl,rfl,x8,x8,x8⟩,x8,x8,x8,x8⟩
theorem Tryz.app70_70:AppT prog #[70,70] 156 1 8 (.pointer none):=⟨⟨70,70,rfl,rfl,x8,x8,x8⟩,x8,x8,x8,x8⟩
theorem Tryz.app71_71:AppT prog #[71,71] 75 32 32 (.agg (jA 32 (.int .u8 0))):=⟨⟨71,71,rfl,rfl,x8,x8,x8⟩,x8,x8,x8,x8⟩
theorem Tryz.app84_84:AppT prog #[84,84] 83 33 56 (.agg (jA 32 (.int .u8 0)++#[.slice none 0 0])):=⟨⟨84,84,rfl,rfl,x8,x8,x8⟩,x8,x8,x8,x8⟩
theorem Tryz.app88_88:AppT prog #[88,88] 78 102 160 (.agg (#[.int .i64 0,.int .i64 0,.int .i64 0,.int .i64 0,.int .i64 0]++jA 96 (.int .u8 0)++#[.slice none 0 0])):=⟨⟨88,88,rfl,rfl,x8,x8,x8⟩,x8,x8,x8,x8⟩
theorem Tryz.app89_89:AppT prog #[89,89] 80 38 80 (.agg (#[.int .i64 0,.int .i64 0,.int .i64 0,.int .i64 0,.int .i64 0,.int .i64 0]++jA 32 (.int .u8 0))):=⟨⟨89,89,rfl,rfl,x8,x8,x8⟩,x8,x8,x8,x8⟩
theorem Tryz.app95_95:AppT prog #[95,95] 134 34 64 (.agg (jA 32 (.int .u8 0)++#[.bool false,.slice none 0 0])):=⟨⟨95,95,rfl,rfl,x8,x8,x8⟩,x8,x8,x8,x8⟩
theorem Tryz.app139_139:AppT prog #[139,139] 229 66 80 (.agg (#[.int .i64 0,.int .i64 0]++jA 64 (.int .u8 0))):=⟨⟨139,139,rfl,rfl,x8,x8,x8⟩,x8,x8,x8,x8⟩
theorem Tryz.by5:byO prog 5=some 1:=x8
theorem Tryz.by75:byO prog 75=some 32:=x8
theorem Tryz.eqg43:prog.eqGuardType prog.depth 43=false:=x8
theorem Tryz.eqg67:prog.eqGuardType prog.depth 67=false:=x8
theorem Tryz.eqg75:prog.eqGuardType prog.depth 75=false:=x8
theorem Tryz.eqg76:prog.eqGuardType prog.depth 76=false:=x8
theorem Tryz.eqg209:prog.eqGuardType prog.depth 209=false:=x8
theorem Tryz.eqg318:prog.eqGuardType prog.depth 318=false:=x8
attribute [go_sem] Tryz.agg3 Tryz.sz3 Tryz.int3 Tryz.flat3 Tryz.bool3 Tryz.zero3 Tryz.agg4 Tryz.agg5 Tryz.sz5 Tryz.int5 Tryz.flat5 Tryz.bool5 Tryz.zero5 Tryz.arr9 Tryz.str9 Tryz.map9 Tryz.flat9 Tryz.agg22 Tryz.sz22 Tryz.arr22 Tryz.slc22 Tryz.map22 Tryz.flat22 Tryz.agg23 Tryz.sz23 Tryz.arr23 Tryz.slc23 Tryz.map23 Tryz.agg25 Tryz.sz25 Tryz.zero25 Tryz.places25 Tryz.agg26 Tryz.int26 Tryz.flat26 Tryz.bool26 Tryz.arr33 Tryz.slc33 Tryz.map33 Tryz.agg34 Tryz.sz34 Tryz.int34 Tryz.flat34 Tryz.arr37 Tryz.slc37 Tryz.map37 Tryz.int39 Tryz.flat39 Tryz.agg43 Tryz.sz43 Tryz.flat43 Tryz.zero43 Tryz.places43 Tryz.agg45 Tryz.sz45 Tryz.arr45 Tryz.slc45 Tryz.map45 Tryz.agg63 Tryz.agg67 Tryz.sz67 Tryz.flat67 Tryz.zero67 Tryz.places67 Tryz.agg68 Tryz.map68 Tryz.agg69 Tryz.map69 Tryz.agg70 Tryz.sz70 Tryz.arr70 Tryz.slc70 Tryz.agg71 Tryz.sz71 Tryz.arr71 Tryz.slc71 Tryz.map71 Tryz.flat71 Tryz.zero73 Tryz.places73 Tryz.agg75 Tryz.sz75 Tryz.arr75 Tryz.flat75 Tryz.zero75 Tryz.agg76 Tryz.sz76 Tryz.arr76 Tryz.slc76 Tryz.map76 Tryz.flat76 Tryz.iface76 Tryz.zero76 Tryz.agg78 Tryz.sz78 Tryz.zero78 Tryz.places78 Tryz.agg80 Tryz.sz80 Tryz.zero80 Tryz.places80 Tryz.agg83 Tryz.sz83 Tryz.zero83 Tryz.places83 Tryz.agg84 Tryz.sz84 Tryz.arr84 Tryz.slc84 Tryz.map84 Tryz.zero84 Tryz.agg88 Tryz.sz88 Tryz.arr88 Tryz.slc88 Tryz.map88 Tryz.arr89 Tryz.slc89 Tryz.map89 Tryz.agg95 Tryz.sz95 Tryz.arr95 Tryz.slc95 Tryz.str95 Tryz.map95 Tryz.sz119 Tryz.agg120 Tryz.sz120 Tryz.arr120 Tryz.zero120 Tryz.places120 Tryz.agg134 Tryz.sz134 Tryz.zero134 Tryz.places134 Tryz.agg139 Tryz.sz139 Tryz.arr139 Tryz.slc139 Tryz.map139 Tryz.agg141 Tryz.sz141 Tryz.zero141 Tryz.places141 Tryz.agg152 Tryz.map152 Tryz.agg153 Tryz.map153 Tryz.zero155 Tryz.places155 Tryz.agg156 Tryz.sz156 Tryz.zero156 Tryz.agg158 Tryz.sz158 Tryz.zero158 Tryz.places158 Tryz.agg173 Tryz.iface173 Tryz.zero173 Tryz.places173 Tryz.agg174 Tryz.iface174 Tryz.zero174 Tryz.places174 Tryz.zero187 Tryz.places187 Tryz.agg201 Tryz.sz201 Tryz.int201 Tryz.flat201 Tryz.arr208 Tryz.agg209 Tryz.sz209 Tryz.arr209 Tryz.flat209 Tryz.zero209 Tryz.places209 Tryz.zero213 Tryz.places213 Tryz.agg217 Tryz.sz217 Tryz.zero217 Tryz.agg229 Tryz.sz229 Tryz.zero229 Tryz.agg240 Tryz.sz240 Tryz.agg250 Tryz.sz250 Tryz.arr250 Tryz.zero250 Tryz.places250 Tryz.agg251 Tryz.sz251 Tryz.arr251 Tryz.zero251 Tryz.arr256 Tryz.agg265 Tryz.sz265 Tryz.zero265 Tryz.sz268 Tryz.arr268 Tryz.zero268 Tryz.places268 Tryz.arr270 Tryz.zero270 Tryz.arr308 Tryz.zero308 Tryz.places308 Tryz.flat310 Tryz.iface310 Tryz.agg315 Tryz.sz315 Tryz.iface315 Tryz.zero315 Tryz.places315 Tryz.agg318 Tryz.sz318 Tryz.flat318 Tryz.zero318 Tryz.places318 Tryz.agg320 Tryz.sz320 Tryz.iface320 Tryz.zero320 Tryz.places320 Tryz.fld25_0 Tryz.fld25_1 Tryz.fld25_2 Tryz.fld25_3 Tryz.fld25_4 Tryz.fld25_5 Tryz.fld25_6 Tryz.fld25_7 Tryz.fld25_8 Tryz.fld25_9 Tryz.fld67_0 Tryz.fld67_1 Tryz.fld67_2 Tryz.fld67_3 Tryz.fld67_4 Tryz.fld73_0 Tryz.fld73_1 Tryz.fld73_2 Tryz.fld73_3 Tryz.fld73_4 Tryz.fld73_5 Tryz.fld73_6 Tryz.fld73_7 Tryz.fld78_0 Tryz.fld78_1 Tryz.fld78_2 Tryz.fld78_3 Tryz.fld78_4 Tryz.fld78_5 Tryz.fld78_6 Tryz.fld78_7 Tryz.fld78_8 Tryz.fld80_0 Tryz.fld80_1 Tryz.fld80_2 Tryz.fld80_3 Tryz.fld80_4 Tryz.fld80_5 Tryz.fld80_6 Tryz.fld83_0 Tryz.fld83_1 Tryz.fld134_0 Tryz.fld134_1 Tryz.fld134_2 Tryz.fld141_0 Tryz.fld141_1 Tryz.fld141_2 Tryz.fld155_0 Tryz.fld155_1 Tryz.fld158_0 Tryz.fld158_1 Tryz.fld187_0 Tryz.fld187_1 Tryz.fld187_2 Tryz.fld187_3 Tryz.fld187_4 Tryz.fld187_5 Tryz.fld213_0 Tryz.fld213_1 Tryz.fld213_2 Tryz.fld213_3 Tryz.fld213_4 Tryz.fld217_0 Tryz.fld217_1 Tryz.fld217_2 Tryz.fld217_3 Tryz.fld229_0 Tryz.fld229_1 Tryz.fld229_2 Tryz.fld229_3 Tryz.fld265_0 Tryz.fld265_1 Tryz.fld265_2 Tryz.fld265_3 Tryz.fld315_0 Tryz.fld315_1 Tryz.fld318_0 Tryz.fld318_1 Tryz.fld318_2 Tryz.fld320_0 Tryz.fld320_1 Tryz.cv3_5 Tryz.cv3_39 Tryz.cv3_201 Tryz.cv5_3 Tryz.cv5_34 Tryz.cv22_9 Tryz.cv34_5 Tryz.cv201_5 Tryz.eqg43 Tryz.eqg67 Tryz.eqg75 Tryz.eqg76 Tryz.eqg209 Tryz.eqg318
abbrev GoT (n:Nat)(f:FuncId)(B:Func)(A:List Nat):Prop:=∀ {args:Array Value} {w:World} {K:Value->World->Prop}, args.size<=n->DenF prog B A args w K->Fn prog f args w K
theorem goT {n:Nat}{f:FuncId}{E:Func}{A:List Nat}(H:prog.funcs[f]?=some E)(h:(E.body.isSome && codeOk prog E.ntmps A (qKc E))=true)(I:E.ntmps=n):GoT n f E A :=
 fun {_ _ _} B=>fn_of_denF A H (Bool.and_eq_true_iff.1 h).1 (Bool.and_eq_true_iff.1 h).2 I B
theorem Tryz.go4:GoT 168 4 Tryz.f4 []:=goT Tryz.func4 x8 Tryz.ntmps4
theorem Tryz.pl8:qQg prog 8=true:=x8
theorem Tryz.go8:GoT 91 8 Tryz.f8 [4,11,13]:=goT Tryz.func8 x8 Tryz.ntmps8
theorem Tryz.pl9:qQg prog 9=true:=x8
theorem Tryz.go9:GoT 6 9 Tryz.f9 []:=goT Tryz.func9 x8 Tryz.ntmps9
theorem Tryz.pl13:qQg prog 13=true:=x8
theorem Tryz.go13:GoT 24 13 Tryz.f13 []:=goT Tryz.func13 x8 Tryz.ntmps13
theorem Tryz.pl14:qQg prog 14=true:=x8
theorem Tryz.go14:GoT 100 14 Tryz.f14 []:=goT Tryz.func14 x8 Tryz.ntmps14
theorem Tryz.pl15:qQg prog 15=true:=x8
theorem Tryz.go15:GoT 32 15 Tryz.f15 []:=goT Tryz.func15 x8 Tryz.ntmps15
theorem Tryz.pl16:qQg prog 16=true:=x8
theorem Tryz.go16:GoT 71 16 Tryz.f16 []:=goT Tryz.func16 x8 Tryz.ntmps16
theorem Tryz.pl17:qQg prog 17=true:=x8
theorem Tryz.go17:GoT 26 17 Tryz.f17 []:=goT Tryz.func17 x8 Tryz.ntmps17
theorem Tryz.pl23:qQg prog 23=true:=x8
theorem Tryz.go23:GoT 85 23 Tryz.f23 []:=goT Tryz.func23 x8 Tryz.ntmps23
theorem Tryz.pl28:qQg prog 28=true:=x8
theorem Tryz.go28:GoT 14 28 Tryz.f28 []:=goT Tryz.func28 x8 Tryz.ntmps28
theorem Tryz.pl29:qQg prog 29=true:=x8
theorem Tryz.go29:GoT 97 29 Tryz.f29 []:=goT Tryz.func29 x8 Tryz.ntmps29
theorem Tryz.pl30:qQg prog 30=true:=x8
theorem Tryz.go30:GoT 109 30 Tryz.f30 [10,14,17]:=goT Tryz.func30 x8 Tryz.ntmps30
theorem Tryz.pl31:qQg prog 31=true:=x8
theorem Tryz.go31:GoT 32 31 Tryz.f31 []:=goT Tryz.func31 x8 Tryz.ntmps31
theorem Tryz.pl41:qQg prog 41=true:=x8
theorem Tryz.go41:GoT 50 41 Tryz.f41 []:=goT Tryz.func41 x8 Tryz.ntmps41
theorem Tryz.pl42:qQg prog 42=true:=x8
theorem Tryz.go42:GoT 15 42 Tryz.f42 []:=goT Tryz.func42 x8 Tryz.ntmps42
theorem Tryz.pl43:qQg prog 43=true:=x8
theorem Tryz.go43:GoT 6 43 Tryz.f43 []:=goT Tryz.func43 x8 Tryz.ntmps43
theorem Tryz.pl44:qQg prog 44=true:=x8
theorem Tryz.go44:GoT 18 44 Tryz.f44 []:=goT Tryz.func44 x8 Tryz.ntmps44
theorem Tryz.pl45:qQg prog 45=true:=x8
theorem Tryz.go45:GoT 58 45 Tryz.f45 []:=goT Tryz.func45 x8 Tryz.ntmps45
theorem Tryz.pl52:qQg prog 52=true:=x8
theorem Tryz.go52:GoT 53 52 Tryz.f52 []:=goT Tryz.func52 x8 Tryz.ntmps52
theorem Tryz.pl53:qQg prog 53=true:=x8
theorem Tryz.go53:GoT 42 53 Tryz.f53 []:=goT Tryz.func53 x8 Tryz.ntmps53
theorem Tryz.pl54:qQg prog 54=true:=x8
theorem Tryz.go54:GoT 24 54 Tryz.f54 []:=goT Tryz.func54 x8 Tryz.ntmps54
theorem Tryz.pl55:qQg prog 55=true:=x8
theorem Tryz.go55:GoT 24 55 Tryz.f55 []:=goT Tryz.func55 x8 Tryz.ntmps55
theorem Tryz.pl56:qQg prog 56=true:=x8
theorem Tryz.go56:GoT 40 56 Tryz.f56 [3]:=goT Tryz.func56 x8 Tryz.ntmps56
theorem Tryz.pl57:qQg prog 57=true:=x8
theorem Tryz.go57:GoT 24 57 Tryz.f57 []:=goT Tryz.func57 x8 Tryz.ntmps57
theorem Tryz.pl58:qQg prog 58=true:=x8
theorem Tryz.go58:GoT 68 58 Tryz.f58 []:=goT Tryz.func58 x8 Tryz.ntmps58
theorem Tryz.pl59:qQg prog 59=true:=x8
theorem Tryz.go59:GoT 11 59 Tryz.f59 []:=goT Tryz.func59 x8 Tryz.ntmps59
theorem Tryz.pl60:qQg prog 60=true:=x8
theorem Tryz.go60:GoT 60 60 Tryz.f60 []:=goT Tryz.func60 x8 Tryz.ntmps60
theorem Tryz.pl61:qQg prog 61=true:=x8
theorem Tryz.go61:GoT 41 61 Tryz.f61 []:=goT Tryz.func61 x8 Tryz.ntmps61
theorem Tryz.pl62:qQg prog 62=true:=x8
theorem Tryz.go62:GoT 35 62 Tryz.f62 []:=goT Tryz.func62 x8 Tryz.ntmps62
theorem Tryz.pl63:qQg prog 63=true:=x8
theorem Tryz.go63:GoT 21 63 Tryz.f63 []:=goT Tryz.func63 x8 Tryz.ntmps63
theorem Tryz.pl64:qQg prog 64=true:=x8
theorem Tryz.go64:GoT 27 64 Tryz.f64 []:=goT Tryz.func64 x8 Tryz.ntmps64
theorem Tryz.pl65:qQg prog 65=true:=x8
theorem Tryz.go65:GoT 36 65 Tryz.f65 []:=goT Tryz.func65 x8 Tryz.ntmps65
theorem Tryz.pl66:qQg prog 66=true:=x8
theorem Tryz.go66:GoT 24 66 Tryz.f66 []:=goT Tryz.func66 x8 Tryz.ntmps66
theorem Tryz.pl79:qQg prog 79=true:=x8
theorem Tryz.go79:GoT 55 79 Tryz.f79 [8]:=goT Tryz.func79 x8 Tryz.ntmps79
theorem Tryz.pl80:qQg prog 80=true:=x8
theorem Tryz.go80:GoT 48 80 Tryz.f80 [6]:=goT Tryz.func80 x8 Tryz.ntmps80
theorem Tryz.pl81:qQg prog 81=true:=x8
theorem Tryz.go81:GoT 14 81 Tryz.f81 []:=goT Tryz.func81 x8 Tryz.ntmps81
theorem Tryz.pl82:qQg prog 82=true:=x8
theorem Tryz.go82:GoT 150 82 Tryz.f82 [2,6,14,22]:=goT Tryz.func82 x8 Tryz.ntmps82
theorem Tryz.pl93:qQg prog 93=true:=x8
theorem Tryz.go93:GoT 17 93 Tryz.f93 []:=goT Tryz.func93 x8 Tryz.ntmps93
theorem Tryz.pl94:qQg prog 94=true:=x8
theorem Tryz.go94:GoT 67 94 Tryz.f94 []:=goT Tryz.func94 x8 Tryz.ntmps94
theorem Tryz.pl95:qQg prog 95=true:=x8
theorem Tryz.go95:GoT 11 95 Tryz.f95 []:=goT Tryz.func95 x8 Tryz.ntmps95
theorem Tryz.pl96:qQg prog 96=true:=x8
theorem Tryz.go96:GoT 15 96 Tryz.f96 []:=goT Tryz.func96 x8 Tryz.ntmps96
theorem Tryz.pl97:qQg prog 97=true:=x8
theorem Tryz.go97:GoT 217 97 Tryz.f97 [10,19,23,24,31,32]:=goT Tryz.func97 x8 Tryz.ntmps97
theorem Tryz.pl98:qQg prog 98=true:=x8
theorem Tryz.go98:GoT 20 98 Tryz.f98 []:=goT Tryz.func98 x8 Tryz.ntmps98
theorem Tryz.pl99:qQg prog 99=true:=x8
theorem Tryz.go99:GoT 19 99 Tryz.f99 []:=goT Tryz.func99 x8 Tryz.ntmps99
theorem Tryz.pl100:qQg prog 100=true:=x8
theorem Tryz.go100:GoT 67 100 Tryz.f100 [4]:=goT Tryz.func100 x8 Tryz.ntmps100
theorem Tryz.pl101:qQg prog 101=true:=x8
theorem Tryz.go101:GoT 19 101 Tryz.f101 []:=goT Tryz.func101 x8 Tryz.ntmps101
theorem Tryz.pl102:qQg prog 102=true:=x8
theorem Tryz.go102:GoT 23 102 Tryz.f102 []:=goT Tryz.func102 x8 Tryz.ntmps102
theorem Tryz.pl103:qQg prog 103=true:=x8
theorem Tryz.go103:GoT 6 103 Tryz.f103 []:=goT Tryz.func103 x8 Tryz.ntmps103
theorem Tryz.pl121:qQg prog 121=true:=x8
theorem Tryz.go121:GoT 54 121 Tryz.f121 []:=goT Tryz.func121 x8 Tryz.ntmps121
theorem Tryz.pl122:qQg prog 122=true:=x8
theorem Tryz.go122:GoT 14 122 Tryz.f122 []:=goT Tryz.func122 x8 Tryz.ntmps122
theorem Tryz.pl123:qQg prog 123=true:=x8
theorem Tryz.go123:GoT 22 123 Tryz.f123 []:=goT Tryz.func123 x8 Tryz.ntmps123
theorem Tryz.pl124:qQg prog 124=true:=x8
theorem Tryz.go124:GoT 60 124 Tryz.f124 []:=goT Tryz.func124 x8 Tryz.ntmps124
theorem Tryz.pl125:qQg prog 125=true:=x8
theorem Tryz.go125:GoT 53 125 Tryz.f125 []:=goT Tryz.func125 x8 Tryz.ntmps125
theorem Tryz.pl126:qQg prog 126=true:=x8
theorem Tryz.go126:GoT 106 126 Tryz.f126 [4,15]:=goT Tryz.func126 x8 Tryz.ntmps126
theorem Tryz.pl131:qQg prog 131=true:=x8
theorem Tryz.go131:GoT 19 131 Tryz.f131 []:=goT Tryz.func131 x8 Tryz.ntmps131
theorem Tryz.pl132:qQg prog 132=true:=x8
theorem Tryz.go132:GoT 42 132 Tryz.f132 []:=goT Tryz.func132 x8 Tryz.ntmps132
theorem Tryz.pl133:qQg prog 133=true:=x8
theorem Tryz.go133:GoT 16 133 Tryz.f133 []:=goT Tryz.func133 x8 Tryz.ntmps133
theorem Tryz.pl134:qQg prog 134=true:=x8
theorem Tryz.go134:GoT 37 134 Tryz.f134 []:=goT Tryz.func134 x8 Tryz.ntmps134
theorem Tryz.pl135:qQg prog 135=true:=x8
theorem Tryz.go135:GoT 42 135 Tryz.f135 []:=goT Tryz.func135 x8 Tryz.ntmps135
theorem Tryz.pl136:qQg prog 136=true:=x8
theorem Tryz.go136:GoT 48 136 Tryz.f136 [6]:=goT Tryz.func136 x8 Tryz.ntmps136
theorem Tryz.pl137:qQg prog 137=true:=x8
theorem Tryz.go137:GoT 71 137 Tryz.f137 []:=goT Tryz.func137 x8 Tryz.ntmps137
theorem Tryz.pl138:qQg prog 138=true:=x8
theorem Tryz.go138:GoT 38 138 Tryz.f138 []:=goT Tryz.func138 x8 Tryz.ntmps138
theorem Tryz.pl139:qQg prog 139=true:=x8
theorem Tryz.go139:GoT 10 139 Tryz.f139 []:=goT Tryz.func139 x8 Tryz.ntmps139
theorem Tryz.pl140:qQg prog 140=true:=x8
theorem Tryz.go140:GoT 43 140 Tryz.f140 [6]:=goT Tryz.func140 x8 Tryz.ntmps140
theorem Tryz.pl141:qQg prog 141=true:=x8
theorem Tryz.go141:GoT 51 141 Tryz.f141 []:=goT Tryz.func141 x8 Tryz.ntmps141
theorem Tryz.pl142:qQg prog 142=true:=x8
theorem Tryz.go142:GoT 27 142 Tryz.f142 [1]:=goT Tryz.func142 x8 Tryz.ntmps142
theorem Tryz.pl143:qQg prog 143=true:=x8
theorem Tryz.go143:GoT 23 143 Tryz.f143 []:=goT Tryz.func143 x8 Tryz.ntmps143
theorem Tryz.pl144:qQg prog 144=true:=x8
theorem Tryz.go144:GoT 14 144 Tryz.f144 []:=goT Tryz.func144 x8 Tryz.ntmps144
theorem Tryz.pl145:qQg prog 145=true:=x8
theorem Tryz.go145:GoT 88 145 Tryz.f145 []:=goT Tryz.func145 x8 Tryz.ntmps145
theorem Tryz.pl158:qQg prog 158=true:=x8
theorem Tryz.go158:GoT 5 158 Tryz.f158 []:=goT Tryz.func158 x8 Tryz.ntmps158
theorem Tryz.pl159:qQg prog 159=true:=x8
theorem Tryz.go159:GoT 20 159 Tryz.f159 []:=goT Tryz.func159 x8 Tryz.ntmps159
theorem Tryz.pl160:qQg prog 160=true:=x8
theorem Tryz.go160:GoT 14 160 Tryz.f160 []:=goT Tryz.func160 x8 Tryz.ntmps160
theorem Tryz.pl161:qQg prog 161=true:=x8
theorem Tryz.go161:GoT 60 161 Tryz.f161 [1,5]:=goT Tryz.func161 x8 Tryz.ntmps161
theorem Tryz.pl162:qQg prog 162=true:=x8
theorem Tryz.go162:GoT 56 162 Tryz.f162 [6,8]:=goT Tryz.func162 x8 Tryz.ntmps162
theorem Tryz.pl163:qQg prog 163=true:=x8
theorem Tryz.go163:GoT 159 163 Tryz.f163 [1,3,9]:=goT Tryz.func163 x8 Tryz.ntmps163
theorem Tryz.pl164:qQg prog 164=true:=x8
theorem Tryz.go164:GoT 42 164 Tryz.f164 [3]:=goT Tryz.func164 x8 Tryz.ntmps164
theorem Tryz.pl165:qQg prog 165=true:=x8
theorem Tryz.go165:GoT 38 165 Tryz.f165 []:=goT Tryz.func165 x8 Tryz.ntmps165
theorem Tryz.pl166:qQg prog 166=true:=x8
theorem Tryz.go166:GoT 104 166 Tryz.f166 [10,11]:=goT Tryz.func166 x8 Tryz.ntmps166
theorem Tryz.pl167:qQg prog 167=true:=x8
theorem Tryz.go167:GoT 119 167 Tryz.f167 [5,8]:=goT Tryz.func167 x8 Tryz.ntmps167
theorem Tryz.pl168:qQg prog 168=true:=x8
theorem Tryz.go168:GoT 16 168 Tryz.f168 []:=goT Tryz.func168 x8 Tryz.ntmps168
theorem Tryz.pl169:qQg prog 169=true:=x8
theorem Tryz.go169:GoT 22 169 Tryz.f169 []:=goT Tryz.func169 x8 Tryz.ntmps169
theorem Tryz.pl170:qQg prog 170=true:=x8
theorem Tryz.go170:GoT 22 170 Tryz.f170 []:=goT Tryz.func170 x8 Tryz.ntmps170
theorem Tryz.pl171:qQg prog 171=true:=x8
theorem Tryz.go171:GoT 28 171 Tryz.f171 []:=goT Tryz.func171 x8 Tryz.ntmps171
theorem Tryz.pl172:qQg prog 172=true:=x8
theorem Tryz.go172:GoT 33 172 Tryz.f172 []:=goT Tryz.func172 x8 Tryz.ntmps172
theorem Tryz.pl173:qQg prog 173=true:=x8
theorem Tryz.go173:GoT 28 173 Tryz.f173 []:=goT Tryz.func173 x8 Tryz.ntmps173
theorem Tryz.pl179:qQg prog 179=true:=x8
theorem Tryz.go179:GoT 10 179 Tryz.f179 []:=goT Tryz.func179 x8 Tryz.ntmps179
theorem Tryz.pl180:qQg prog 180=true:=x8
theorem Tryz.go180:GoT 15 180 Tryz.f180 []:=goT Tryz.func180 x8 Tryz.ntmps180
theorem Tryz.pl181:qQg prog 181=true:=x8
theorem Tryz.go181:GoT 9 181 Tryz.f181 []:=goT Tryz.func181 x8 Tryz.ntmps181
theorem Tryz.pl182:qQg prog 182=true:=x8
theorem Tryz.go182:GoT 12 182 Tryz.f182 []:=goT Tryz.func182 x8 Tryz.ntmps182
theorem Tryz.pl183:qQg prog 183=true:=x8
theorem Tryz.go183:GoT 24 183 Tryz.f183 []:=goT Tryz.func183 x8 Tryz.ntmps183
theorem Tryz.pl184:qQg prog 184=true:=x8
theorem Tryz.go184:GoT 28 184 Tryz.f184 []:=goT Tryz.func184 x8 Tryz.ntmps184
theorem Tryz.pl185:qQg prog 185=true:=x8
theorem Tryz.go185:GoT 26 185 Tryz.f185 []:=goT Tryz.func185 x8 Tryz.ntmps185
theorem Tryz.pl186:qQg prog 186=true:=x8
theorem Tryz.go186:GoT 10 186 Tryz.f186 []:=goT Tryz.func186 x8 Tryz.ntmps186
theorem Tryz.pl187:qQg prog 187=true:=x8
theorem Tryz.go187:GoT 45 187 Tryz.f187 []:=goT Tryz.func187 x8 Tryz.ntmps187
theorem Tryz.pl188:qQg prog 188=true:=x8
theorem Tryz.go188:GoT 13 188 Tryz.f188 []:=goT Tryz.func188 x8 Tryz.ntmps188
theorem Tryz.pl189:qQg prog 189=true:=x8
theorem Tryz.go189:GoT 35 189 Tryz.f189 []:=goT Tryz.func189 x8 Tryz.ntmps189
theorem Tryz.pl190:qQg prog 190=true:=x8
theorem Tryz.go190:GoT 73 190 Tryz.f190 []:=goT Tryz.func190 x8 Tryz.ntmps190
theorem Tryz.pl191:qQg prog 191=true:=x8
theorem Tryz.go191:GoT 76 191 Tryz.f191 []:=goT Tryz.func191 x8 Tryz.ntmps191
theorem Tryz.pl192:qQg prog 192=true:=x8
theorem Tryz.go192:GoT 6 192 Tryz.f192 []:=goT Tryz.func192 x8 Tryz.ntmps192
theorem Tryz.pl193:qQg prog 193=true:=x8
theorem Tryz.go193:GoT 13 193 Tryz.f193 []:=goT Tryz.func193 x8 Tryz.ntmps193
theorem Tryz.pl194:qQg prog 194=true:=x8
theorem Tryz.go194:GoT 21 194 Tryz.f194 []:=goT Tryz.func194 x8 Tryz.ntmps194
theorem Tryz.pl195:qQg prog 195=true:=x8
theorem Tryz.go195:GoT 231 195 Tryz.f195 [17]:=goT Tryz.func195 x8 Tryz.ntmps195
theorem Tryz.pl196:qQg prog 196=true:=x8
theorem Tryz.go196:GoT 6 196 Tryz.f196 []:=goT Tryz.func196 x8 Tryz.ntmps196
theorem Tryz.pl197:qQg prog 197=true:=x8
theorem Tryz.go197:GoT 17 197 Tryz.f197 []:=goT Tryz.func197 x8 Tryz.ntmps197
theorem Tryz.pl198:qQg prog 198=true:=x8
theorem Tryz.go198:GoT 17 198 Tryz.f198 []:=goT Tryz.func198 x8 Tryz.ntmps198
theorem Tryz.pl215:qQg prog 215=true:=x8
theorem Tryz.go215:GoT 18 215 Tryz.f215 []:=goT Tryz.func215 x8 Tryz.ntmps215
theorem Tryz.pl216:qQg prog 216=true:=x8
theorem Tryz.go216:GoT 42 216 Tryz.f216 []:=goT Tryz.func216 x8 Tryz.ntmps216
theorem Tryz.pl217:qQg prog 217=true:=x8
theorem Tryz.go217:GoT 21 217 Tryz.f217 []:=goT Tryz.func217 x8 Tryz.ntmps217
theorem Tryz.pl218:qQg prog 218=true:=x8
theorem Tryz.go218:GoT 24 218 Tryz.f218 []:=goT Tryz.func218 x8 Tryz.ntmps218
theorem Tryz.pl230:qQg prog 230=true:=x8
theorem Tryz.go230:GoT 68 230 Tryz.f230 []:=goT Tryz.func230 x8 Tryz.ntmps230
theorem Tryz.pl231:qQg prog 231=true:=x8
theorem Tryz.go231:GoT 52 231 Tryz.f231 []:=goT Tryz.func231 x8 Tryz.ntmps231
theorem Tryz.pl232:qQg prog 232=true:=x8
theorem Tryz.go232:GoT 62 232 Tryz.f232 []:=goT Tryz.func232 x8 Tryz.ntmps232
theorem Tryz.pl233:qQg prog 233=true:=x8
theorem Tryz.go233:GoT 20 233 Tryz.f233 []:=goT Tryz.func233 x8 Tryz.ntmps233
theorem Tryz.pl234:qQg prog 234=true:=x8
theorem Tryz.go234:GoT 9 234 Tryz.f234 []:=goT Tryz.func234 x8 Tryz.ntmps234
theorem Tryz.pl235:qQg prog 235=true:=x8
theorem Tryz.go235:GoT 8 235 Tryz.f235 []:=goT Tryz.func235 x8 Tryz.ntmps235
theorem Tryz.pl236:qQg prog 236=true:=x8
theorem Tryz.go236:GoT 88 236 Tryz.f236 []:=goT Tryz.func236 x8 Tryz.ntmps236
theorem Tryz.pl237:qQg prog 237=true:=x8
theorem Tryz.go237:GoT 60 237 Tryz.f237 [6]:=goT Tryz.func237 x8 Tryz.ntmps237
theorem Tryz.pl238:qQg prog 238=true:=x8
theorem Tryz.go238:GoT 38 238 Tryz.f238 [4,7]:=goT Tryz.func238 x8 Tryz.ntmps238
theorem Tryz.pl239:qQg prog 239=true:=x8
theorem Tryz.go239:GoT 23 239 Tryz.f239 []:=goT Tryz.func239 x8 Tryz.ntmps239
theorem Tryz.pl240:qQg prog 240=true:=x8
theorem Tryz.go240:GoT 9 240 Tryz.f240 []:=goT Tryz.func240 x8 Tryz.ntmps240
theorem Tryz.pl241:qQg prog 241=true:=x8
theorem Tryz.go241:GoT 14 241 Tryz.f241 []:=goT Tryz.func241 x8 Tryz.ntmps241
theorem Tryz.pl242:qQg prog 242=true:=x8
theorem Tryz.go242:GoT 25 242 Tryz.f242 []:=goT Tryz.func242 x8 Tryz.ntmps242
theorem Tryz.pl246:qQg prog 246=true:=x8
theorem Tryz.go246:GoT 7 246 Tryz.f246 []:=goT Tryz.func246 x8 Tryz.ntmps246
theorem Tryz.pl247:qQg prog 247=true:=x8
theorem Tryz.go247:GoT 27 247 Tryz.f247 []:=goT Tryz.func247 x8 Tryz.ntmps247
theorem Tryz.pl249:qQg prog 249=true:=x8
theorem Tryz.go249:GoT 36 249 Tryz.f249 []:=goT Tryz.func249 x8 Tryz.ntmps249
attribute [go_sem] List.getElem?_toArray List.getElem?_cons_zero List.getElem?_cons_succ
end
end Go.V
