/- Helpers. -/
import Derived.Test.YtppmpdjlmgfdkaaGreatDoorProg
import Derived.Test.YtppmpdjlmgfdkaaGreatDoorM07
set_option linter.all false
set_option maxRecDepth 100000
set_option maxHeartbeats 8000000
open Array renaming replicate->xS
namespace Go.V
open Go.Proofs.Tryz
section
open Go.Proofs
theorem Tryz.agg3:aggO prog 3=some false:=x9
theorem Tryz.sz3:szO prog 3=some 1:=x9
theorem Tryz.int3:intO prog 3=some .i64:=x9
theorem Tryz.flat3:flatT prog 3=true:=x9
theorem Tryz.bool3:boolT prog 3=false:=x9
theorem Tryz.zero3:zeroO prog 3=some (.int .i64 0):=x9
theorem Tryz.agg4:aggO prog 4=some false:=x9
theorem Tryz.flat4:flatT prog 4=true:=x9
theorem Tryz.bool4:boolT prog 4=true:=x9
theorem Tryz.agg5:aggO prog 5=some false:=x9
theorem Tryz.sz5:szO prog 5=some 1:=x9
theorem Tryz.int5:intO prog 5=some .u8:=x9
theorem Tryz.flat5:flatT prog 5=true:=x9
theorem Tryz.bool5:boolT prog 5=false:=x9
theorem Tryz.zero5:zeroO prog 5=some (.int .u8 0):=x9
theorem Tryz.arr9:arrO prog 9=none:=x9
theorem Tryz.str9:strO prog 9=true:=x9
theorem Tryz.map9:mapO prog 9=none:=x9
theorem Tryz.flat9:flatT prog 9=true:=x9
theorem Tryz.agg22:aggO prog 22=some false:=x9
theorem Tryz.sz22:szO prog 22=some 1:=x9
theorem Tryz.arr22:arrO prog 22=none:=x9
theorem Tryz.slc22:slcO prog 22=some 5:=x9
theorem Tryz.str22:strO prog 22=false:=x9
theorem Tryz.map22:mapO prog 22=none:=x9
theorem Tryz.agg23:aggO prog 23=some false:=x9
theorem Tryz.sz23:szO prog 23=some 1:=x9
theorem Tryz.arr23:arrO prog 23=none:=x9
theorem Tryz.slc23:slcO prog 23=some 43:=x9
theorem Tryz.map23:mapO prog 23=none:=x9
theorem Tryz.agg25:aggO prog 25=some true:=x9
theorem Tryz.sz25:szO prog 25=some 10:=x9
theorem Tryz.zero25:zeroO prog 25=some (.agg (xS 9 (.int .i64 0)++#[.slice none 0 0])):=x9
theorem Tryz.places25:qXh prog 25=some [(0,1),(1,1),(2,1),(3,1),(4,1),(5,1),(6,1),(7,1),(8,1),(9,1)]:=x9
theorem Tryz.flat26:flatT prog 26=true:=x9
theorem Tryz.bool26:boolT prog 26=false:=x9
theorem Tryz.agg34:aggO prog 34=some false:=x9
theorem Tryz.sz34:szO prog 34=some 1:=x9
theorem Tryz.int34:intO prog 34=some .u32:=x9
theorem Tryz.flat34:flatT prog 34=true:=x9
theorem Tryz.arr37:arrO prog 37=none:=x9
theorem Tryz.slc37:slcO prog 37=some 84:=x9
theorem Tryz.map37:mapO prog 37=none:=x9
theorem Tryz.int39:intO prog 39=some .u64:=x9
theorem Tryz.flat39:flatT prog 39=true:=x9
theorem Tryz.sz43:szO prog 43=some 2:=x9
theorem Tryz.zero43:zeroO prog 43=some (.agg #[.int .i64 0,.int .i64 0]):=x9
theorem Tryz.places43:qXh prog 43=some [(0,1),(1,1)]:=x9
theorem Tryz.agg45:aggO prog 45=some false:=x9
theorem Tryz.sz45:szO prog 45=some 1:=x9
theorem Tryz.arr45:arrO prog 45=none:=x9
theorem Tryz.slc45:slcO prog 45=some 3:=x9
theorem Tryz.map45:mapO prog 45=none:=x9
theorem Tryz.agg63:aggO prog 63=some false:=x9
theorem Tryz.agg67:aggO prog 67=some true:=x9
theorem Tryz.sz67:szO prog 67=some 5:=x9
theorem Tryz.flat67:flatT prog 67=false:=x9
theorem Tryz.zero67:zeroO prog 67=some (.agg #[.int .i64 0,.int .i64 0,.int .i64 0,.int .i64 0,.int .i64 0]):=x9
theorem Tryz.places67:qXh prog 67=some [(0,1),(1,1),(2,1),(3,1),(4,1)]:=x9
theorem Tryz.agg68:aggO prog 68=some false:=x9
theorem Tryz.map68:mapO prog 68=some (3,78):=x9
theorem Tryz.agg69:aggO prog 69=some false:=x9
theorem Tryz.map69:mapO prog 69=some (3,80):=x9
theorem Tryz.agg70:aggO prog 70=some false:=x9
theorem Tryz.sz70:szO prog 70=some 1:=x9
theorem Tryz.arr70:arrO prog 70=none:=x9
theorem Tryz.slc70:slcO prog 70=some 156:=x9
theorem Tryz.agg71:aggO prog 71=some false:=x9
theorem Tryz.sz71:szO prog 71=some 1:=x9
theorem Tryz.arr71:arrO prog 71=none:=x9
theorem Tryz.slc71:slcO prog 71=some 75:=x9
theorem Tryz.map71:mapO prog 71=none:=x9
theorem Tryz.flat71:flatT prog 71=false:=x9
theorem Tryz.zero73:zeroO prog 73=some (.agg #[.slice none 0 0,.int .i64 0,.int .i64 0,.int .i64 0,.int .i64 0,.int .i64 0,.map none,.map none,.slice none 0 0,.slice none 0 0,.slice none 0 0,.slice none 0 0]):=x9
theorem Tryz.places73:qXh prog 73=some [(0,1),(1,5),(6,1),(7,1),(8,1),(9,1),(10,1),(11,1)]:=x9
theorem Tryz.agg75:aggO prog 75=some true:=x9
theorem Tryz.sz75:szO prog 75=some 32:=x9
theorem Tryz.arr75:arrO prog 75=some (32,5):=x9
theorem Tryz.flat75:flatT prog 75=false:=x9
theorem Tryz.zero75:zeroO prog 75=some (.agg (xS 32 (.int .u8 0))):=x9
theorem Tryz.places75:qXh prog 75=none:=x9
theorem Tryz.agg76:aggO prog 76=some true:=x9
theorem Tryz.sz76:szO prog 76=some 32:=x9
theorem Tryz.arr76:arrO prog 76=some (32,5):=x9
theorem Tryz.flat76:flatT prog 76=false:=x9
theorem Tryz.zero76:zeroO prog 76=some (.agg (xS 32 (.int .u8 0))):=x9
theorem Tryz.places76:qXh prog 76=none:=x9
theorem Tryz.agg78:aggO prog 78=some true:=x9
theorem Tryz.sz78:szO prog 78=some 102:=x9
theorem Tryz.zero78:zeroO prog 78=some (.agg (#[.int .i64 0,.int .i64 0,.int .i64 0,.int .i64 0,.int .i64 0]++xS 96 (.int .u8 0)++#[.slice none 0 0])):=x9
theorem Tryz.places78:qXh prog 78=some [(0,1),(1,1),(2,1),(3,1),(4,1),(5,32),(37,32),(69,32),(101,1)]:=x9
theorem Tryz.agg80:aggO prog 80=some true:=x9
theorem Tryz.sz80:szO prog 80=some 38:=x9
theorem Tryz.zero80:zeroO prog 80=some (.agg (#[.int .i64 0,.int .i64 0,.int .i64 0,.int .i64 0,.int .i64 0,.int .i64 0]++xS 32 (.int .u8 0))):=x9
theorem Tryz.places80:qXh prog 80=some [(0,1),(1,1),(2,1),(3,1),(4,1),(5,1),(6,32)]:=x9
theorem Tryz.agg83:aggO prog 83=some true:=x9
theorem Tryz.sz83:szO prog 83=some 33:=x9
theorem Tryz.zero83:zeroO prog 83=some (.agg (xS 32 (.int .u8 0)++#[.slice none 0 0])):=x9
theorem Tryz.places83:qXh prog 83=some [(0,32),(32,1)]:=x9
theorem Tryz.agg84:aggO prog 84=some false:=x9
theorem Tryz.sz84:szO prog 84=some 1:=x9
theorem Tryz.arr84:arrO prog 84=none:=x9
theorem Tryz.slc84:slcO prog 84=some 83:=x9
theorem Tryz.map84:mapO prog 84=none:=x9
theorem Tryz.zero84:zeroO prog 84=some (.slice none 0 0):=x9
theorem Tryz.agg88:aggO prog 88=some false:=x9
theorem Tryz.sz88:szO prog 88=some 1:=x9
theorem Tryz.arr88:arrO prog 88=none:=x9
theorem Tryz.slc88:slcO prog 88=some 78:=x9
theorem Tryz.map88:mapO prog 88=none:=x9
theorem Tryz.agg89:aggO prog 89=some false:=x9
theorem Tryz.sz89:szO prog 89=some 1:=x9
theorem Tryz.arr89:arrO prog 89=none:=x9
theorem Tryz.slc89:slcO prog 89=some 80:=x9
theorem Tryz.map89:mapO prog 89=none:=x9
theorem Tryz.zero92:zeroO prog 92=some (.agg #[.int .i64 0,.int .i64 0,.int .i64 0,.int .i64 0,.int .i64 0,.slice none 0 0,.slice none 0 0,.slice none 0 0,.slice none 0 0,.slice none 0 0,.slice none 0 0,.slice none 0 0]):=x9
theorem Tryz.places92:qXh prog 92=some [(0,5),(5,1),(6,1),(7,1),(8,1),(9,1),(10,1),(11,1)]:=x9
theorem Tryz.arr95:arrO prog 95=none:=x9
theorem Tryz.slc95:slcO prog 95=some 134:=x9
theorem Tryz.str95:strO prog 95=false:=x9
theorem Tryz.map95:mapO prog 95=none:=x9
theorem Tryz.sz119:szO prog 119=some 1:=x9
theorem Tryz.agg120:aggO prog 120=some true:=x9
theorem Tryz.sz120:szO prog 120=some 2:=x9
theorem Tryz.arr120:arrO prog 120=some (2,119):=x9
theorem Tryz.zero120:zeroO prog 120=some (.agg #[.nilIface,.nilIface]):=x9
theorem Tryz.places120:qXh prog 120=none:=x9
theorem Tryz.agg134:aggO prog 134=some true:=x9
theorem Tryz.sz134:szO prog 134=some 34:=x9
theorem Tryz.zero134:zeroO prog 134=some (.agg (xS 32 (.int .u8 0)++#[.bool false,.slice none 0 0])):=x9
theorem Tryz.places134:qXh prog 134=some [(0,32),(32,1),(33,1)]:=x9
theorem Tryz.agg139:aggO prog 139=some false:=x9
theorem Tryz.sz139:szO prog 139=some 1:=x9
theorem Tryz.arr139:arrO prog 139=none:=x9
theorem Tryz.slc139:slcO prog 139=some 229:=x9
theorem Tryz.map139:mapO prog 139=none:=x9
theorem Tryz.agg141:aggO prog 141=some true:=x9
theorem Tryz.sz141:szO prog 141=some 3:=x9
theorem Tryz.zero141:zeroO prog 141=some (.agg #[.int .i64 0,.slice none 0 0,.slice none 0 0]):=x9
theorem Tryz.places141:qXh prog 141=some [(0,1),(1,1),(2,1)]:=x9
theorem Tryz.agg152:aggO prog 152=some false:=x9
theorem Tryz.map152:mapO prog 152=some (158,3):=x9
theorem Tryz.agg153:aggO prog 153=some false:=x9
theorem Tryz.map153:mapO prog 153=some (76,3):=x9
theorem Tryz.zero155:zeroO prog 155=some (.agg #[.map none,.map none]):=x9
theorem Tryz.places155:qXh prog 155=some [(0,1),(1,1)]:=x9
theorem Tryz.agg156:aggO prog 156=some false:=x9
theorem Tryz.sz156:szO prog 156=some 1:=x9
theorem Tryz.zero156:zeroO prog 156=some (.pointer none):=x9
theorem Tryz.agg158:aggO prog 158=some true:=x9
theorem Tryz.sz158:szO prog 158=some 33:=x9
theorem Tryz.zero158:zeroO prog 158=some (.agg (#[.int .i64 0]++xS 32 (.int .u8 0))):=x9
theorem Tryz.places158:qXh prog 158=some [(0,1),(1,32)]:=x9
theorem Tryz.agg173:aggO prog 173=some true:=x9
theorem Tryz.iface173:qVl prog 173=false:=x9
theorem Tryz.zero173:zeroO prog 173=some (.agg #[]):=x9
theorem Tryz.places173:qXh prog 173=some []:=x9
theorem Tryz.agg174:aggO prog 174=some true:=x9
theorem Tryz.iface174:qVl prog 174=false:=x9
theorem Tryz.zero174:zeroO prog 174=some (.agg #[]):=x9
theorem Tryz.places174:qXh prog 174=some []:=x9
theorem Tryz.zero187:zeroO prog 187=some (.agg #[.int .i64 0,.int .i64 0,.slice none 0 0,.int .i64 0,.slice none 0 0,.slice none 0 0,.slice none 0 0,.slice none 0 0]):=x9
theorem Tryz.places187:qXh prog 187=some [(0,1),(1,1),(2,1),(3,3),(6,1),(7,1)]:=x9
theorem Tryz.agg201:aggO prog 201=some false:=x9
theorem Tryz.sz201:szO prog 201=some 1:=x9
theorem Tryz.int201:intO prog 201=some .u64:=x9
theorem Tryz.flat201:flatT prog 201=true:=x9
theorem Tryz.arr208:arrO prog 208=some (64,5):=x9
theorem Tryz.agg209:aggO prog 209=some true:=x9
theorem Tryz.sz209:szO prog 209=some 64:=x9
theorem Tryz.arr209:arrO prog 209=some (64,5):=x9
theorem Tryz.flat209:flatT prog 209=false:=x9
theorem Tryz.zero209:zeroO prog 209=some (.agg (xS 64 (.int .u8 0))):=x9
theorem Tryz.places209:qXh prog 209=none:=x9
theorem Tryz.zero213:zeroO prog 213=some (.agg #[.pointer none,.pointer none,.pointer none,.int .i64 0,.int .i64 0]):=x9
theorem Tryz.places213:qXh prog 213=some [(0,1),(1,1),(2,1),(3,1),(4,1)]:=x9
theorem Tryz.agg217:aggO prog 217=some true:=x9
theorem Tryz.sz217:szO prog 217=some 35:=x9
theorem Tryz.zero217:zeroO prog 217=some (.agg (#[.int .i64 0,.int .i64 0,.int .i64 0]++xS 32 (.int .u8 0))):=x9
theorem Tryz.agg229:aggO prog 229=some true:=x9
theorem Tryz.sz229:szO prog 229=some 66:=x9
theorem Tryz.zero229:zeroO prog 229=some (.agg (#[.int .i64 0,.int .i64 0]++xS 64 (.int .u8 0))):=x9
theorem Tryz.agg240:aggO prog 240=some false:=x9
theorem Tryz.sz240:szO prog 240=some 1:=x9
theorem Tryz.agg250:aggO prog 250=some true:=x9
theorem Tryz.sz250:szO prog 250=some 8:=x9
theorem Tryz.arr250:arrO prog 250=some (8,34):=x9
theorem Tryz.zero250:zeroO prog 250=some (.agg #[.int .u32 0,.int .u32 0,.int .u32 0,.int .u32 0,.int .u32 0,.int .u32 0,.int .u32 0,.int .u32 0]):=x9
theorem Tryz.places250:qXh prog 250=none:=x9
theorem Tryz.agg251:aggO prog 251=some true:=x9
theorem Tryz.sz251:szO prog 251=some 64:=x9
theorem Tryz.arr251:arrO prog 251=some (64,34):=x9
theorem Tryz.zero251:zeroO prog 251=some (.agg (xS 64 (.int .u32 0))):=x9
theorem Tryz.arr256:arrO prog 256=some (33,5):=x9
theorem Tryz.agg265:aggO prog 265=some true:=x9
theorem Tryz.sz265:szO prog 265=some 74:=x9
theorem Tryz.zero265:zeroO prog 265=some (.agg (#[.int .u32 0,.int .u32 0,.int .u32 0,.int .u32 0,.int .u32 0,.int .u32 0,.int .u32 0,.int .u32 0]++xS 64 (.int .u8 0)++#[.int .i64 0,.int .u64 0])):=x9
theorem Tryz.sz268:szO prog 268=some 16:=x9
theorem Tryz.arr268:arrO prog 268=some (16,34):=x9
theorem Tryz.zero268:zeroO prog 268=some (.agg (xS 16 (.int .u32 0))):=x9
theorem Tryz.places268:qXh prog 268=none:=x9
theorem Tryz.arr270:arrO prog 270=some (128,5):=x9
theorem Tryz.zero270:zeroO prog 270=some (.agg (xS 128 (.int .u8 0))):=x9
theorem Tryz.arr308:arrO prog 308=some (6,240):=x9
theorem Tryz.zero308:zeroO prog 308=some (.agg #[.pointer none,.pointer none,.pointer none,.pointer none,.pointer none,.pointer none]):=x9
theorem Tryz.places308:qXh prog 308=none:=x9
theorem Tryz.flat310:flatT prog 310=false:=x9
theorem Tryz.iface310:qVl prog 310=true:=x9
theorem Tryz.agg315:aggO prog 315=some true:=x9
theorem Tryz.sz315:szO prog 315=some 33:=x9
theorem Tryz.iface315:qVl prog 315=false:=x9
theorem Tryz.zero315:zeroO prog 315=some (.agg (xS 32 (.int .u8 0)++#[.slice none 0 0])):=x9
theorem Tryz.places315:qXh prog 315=some [(0,32),(32,1)]:=x9
theorem Tryz.agg318:aggO prog 318=some true:=x9
theorem Tryz.sz318:szO prog 318=some 34:=x9
theorem Tryz.flat318:flatT prog 318=false:=x9
theorem Tryz.zero318:zeroO prog 318=some (.agg (#[.int .i64 0,.int .i64 0]++xS 32 (.int .u8 0))):=x9
theorem Tryz.places318:qXh prog 318=some [(0,1),(1,1),(2,32)]:=x9
theorem Tryz.agg320:aggO prog 320=some true:=x9
theorem Tryz.sz320:szO prog 320=some 68:=x9
theorem Tryz.iface320:qVl prog 320=false:=x9
theorem Tryz.zero320:zeroO prog 320=some (.agg (#[.int .i64 0,.int .i64 0]++xS 32 (.int .u8 0)++#[.int .i64 0,.int .i64 0]++xS 32 (.int .u8 0))):=x9
theorem Tryz.places320:qXh prog 320=some [(0,34),(34,34)]:=x9
theorem Tryz.fld25_4:qQp prog 25 4=some (4,3):=x9
theorem Tryz.fld25_5:qQp prog 25 5=some (5,3):=x9
theorem Tryz.fld25_6:qQp prog 25 6=some (6,3):=x9
theorem Tryz.fld25_7:qQp prog 25 7=some (7,3):=x9
theorem Tryz.fld25_8:qQp prog 25 8=some (8,3):=x9
theorem Tryz.fld25_9:qQp prog 25 9=some (9,23):=x9
theorem Tryz.fld67_0:qQp prog 67 0=some (0,3):=x9
theorem Tryz.fld67_1:qQp prog 67 1=some (1,3):=x9
theorem Tryz.fld67_2:qQp prog 67 2=some (2,3):=x9
theorem Tryz.fld67_3:qQp prog 67 3=some (3,3):=x9
theorem Tryz.fld67_4:qQp prog 67 4=some (4,3):=x9
theorem Tryz.fld73_0:qQp prog 73 0=some (0,22):=x9
theorem Tryz.fld73_1:qQp prog 73 1=some (1,67):=x9
theorem Tryz.fld73_2:qQp prog 73 2=some (6,68):=x9
theorem Tryz.fld73_3:qQp prog 73 3=some (7,69):=x9
theorem Tryz.fld73_4:qQp prog 73 4=some (8,45):=x9
theorem Tryz.fld73_5:qQp prog 73 5=some (9,70):=x9
theorem Tryz.fld73_6:qQp prog 73 6=some (10,23):=x9
theorem Tryz.fld73_7:qQp prog 73 7=some (11,71):=x9
theorem Tryz.fld78_0:qQp prog 78 0=some (0,3):=x9
theorem Tryz.fld78_1:qQp prog 78 1=some (1,3):=x9
theorem Tryz.fld78_2:qQp prog 78 2=some (2,3):=x9
theorem Tryz.fld78_3:qQp prog 78 3=some (3,3):=x9
theorem Tryz.fld78_4:qQp prog 78 4=some (4,3):=x9
theorem Tryz.fld78_5:qQp prog 78 5=some (5,75):=x9
theorem Tryz.fld78_6:qQp prog 78 6=some (37,75):=x9
theorem Tryz.fld78_7:qQp prog 78 7=some (69,76):=x9
theorem Tryz.fld78_8:qQp prog 78 8=some (101,22):=x9
theorem Tryz.fld80_0:qQp prog 80 0=some (0,3):=x9
theorem Tryz.fld80_1:qQp prog 80 1=some (1,3):=x9
theorem Tryz.fld80_2:qQp prog 80 2=some (2,3):=x9
theorem Tryz.fld80_3:qQp prog 80 3=some (3,3):=x9
theorem Tryz.fld80_4:qQp prog 80 4=some (4,3):=x9
theorem Tryz.fld80_5:qQp prog 80 5=some (5,3):=x9
theorem Tryz.fld80_6:qQp prog 80 6=some (6,75):=x9
theorem Tryz.fld83_0:qQp prog 83 0=some (0,76):=x9
theorem Tryz.fld83_1:qQp prog 83 1=some (32,22):=x9
theorem Tryz.fld92_0:qQp prog 92 0=some (0,67):=x9
theorem Tryz.fld92_1:qQp prog 92 1=some (5,45):=x9
theorem Tryz.fld92_2:qQp prog 92 2=some (6,88):=x9
theorem Tryz.fld92_3:qQp prog 92 3=some (7,89):=x9
theorem Tryz.fld92_4:qQp prog 92 4=some (8,45):=x9
theorem Tryz.fld92_6:qQp prog 92 6=some (10,23):=x9
theorem Tryz.fld134_0:qQp prog 134 0=some (0,76):=x9
theorem Tryz.fld134_1:qQp prog 134 1=some (32,4):=x9
theorem Tryz.fld134_2:qQp prog 134 2=some (33,22):=x9
theorem Tryz.fld141_0:qQp prog 141 0=some (0,3):=x9
theorem Tryz.fld141_1:qQp prog 141 1=some (1,84):=x9
theorem Tryz.fld141_2:qQp prog 141 2=some (2,139):=x9
theorem Tryz.fld155_0:qQp prog 155 0=some (0,152):=x9
theorem Tryz.fld155_1:qQp prog 155 1=some (1,153):=x9
theorem Tryz.fld158_0:qQp prog 158 0=some (0,3):=x9
theorem Tryz.fld158_1:qQp prog 158 1=some (1,76):=x9
theorem Tryz.fld187_0:qQp prog 187 0=some (0,3):=x9
theorem Tryz.fld187_1:qQp prog 187 1=some (1,3):=x9
theorem Tryz.fld187_2:qQp prog 187 2=some (2,71):=x9
theorem Tryz.fld187_3:qQp prog 187 3=some (3,141):=x9
theorem Tryz.fld187_4:qQp prog 187 4=some (6,88):=x9
theorem Tryz.fld187_5:qQp prog 187 5=some (7,139):=x9
theorem Tryz.fld213_0:qQp prog 213 0=some (0,63):=x9
theorem Tryz.fld213_1:qQp prog 213 1=some (1,156):=x9
theorem Tryz.fld213_2:qQp prog 213 2=some (2,156):=x9
theorem Tryz.fld213_3:qQp prog 213 3=some (3,3):=x9
theorem Tryz.fld213_4:qQp prog 213 4=some (4,3):=x9
theorem Tryz.fld217_0:qQp prog 217 0=some (0,3):=x9
theorem Tryz.fld217_1:qQp prog 217 1=some (1,3):=x9
theorem Tryz.fld217_2:qQp prog 217 2=some (2,3):=x9
theorem Tryz.fld217_3:qQp prog 217 3=some (3,75):=x9
theorem Tryz.fld229_0:qQp prog 229 0=some (0,3):=x9
theorem Tryz.fld229_1:qQp prog 229 1=some (1,3):=x9
theorem Tryz.fld229_2:qQp prog 229 2=some (2,76):=x9
theorem Tryz.fld229_3:qQp prog 229 3=some (34,75):=x9
theorem Tryz.fld265_0:qQp prog 265 0=some (0,250):=x9
theorem Tryz.fld265_1:qQp prog 265 1=some (8,208):=x9
theorem Tryz.fld265_2:qQp prog 265 2=some (72,3):=x9
theorem Tryz.fld265_3:qQp prog 265 3=some (73,201):=x9
theorem Tryz.fld315_0:qQp prog 315 0=some (0,76):=x9
theorem Tryz.fld315_1:qQp prog 315 1=some (32,22):=x9
theorem Tryz.fld318_0:qQp prog 318 0=some (0,3):=x9
theorem Tryz.fld318_1:qQp prog 318 1=some (1,3):=x9
theorem Tryz.fld318_2:qQp prog 318 2=some (2,75):=x9
theorem Tryz.fld320_0:qQp prog 320 0=some (0,318):=x9
theorem Tryz.fld320_1:qQp prog 320 1=some (34,318):=x9
theorem Tryz.cv3_5:cvP prog 3 5=true:=x9
theorem Tryz.cv3_39:cvP prog 3 39=true:=x9
theorem Tryz.cv3_201:cvP prog 3 201=true:=x9
theorem Tryz.cv5_3:cvP prog 5 3=true:=x9
theorem Tryz.cv5_34:cvP prog 5 34=true:=x9
theorem Tryz.cv22_9:cvP prog 22 9=false:=x9
theorem Tryz.cv34_5:cvP prog 34 5=true:=x9
theorem Tryz.cv201_5:cvP prog 201 5=true:=x9
theorem Tryz.app22_22:AppT prog #[22,22] 5 1 1 (.int .u8 0):=⟨⟨22,22,rfl,rfl,x9,x9,x9⟩,x9,x9,x9,x9⟩
theorem Tryz.app23_23:AppT prog #[23,23] 43 2 16 (.agg #[.int .i64 0,.int .i64 0]):=⟨⟨23,23,rfl,rfl,x9,x9,x9⟩,x9,x9,x9,x9⟩
theorem Tryz.app37_37:AppT prog #[37,37] 84 1 24 (.slice none 0 0):=⟨⟨37,37,rfl,rfl,x9,x9,x9⟩,x9,x9,x9,x9⟩
theorem Tryz.app45_45:AppT prog #[45,45] 3 1 8 (.int .i64 0):=⟨⟨45,45,rfl,rfl,x9,x9,x9⟩,x9,x9,x9,x9⟩
theorem Tryz.app70_70:AppT prog #[70,70] 156 1 8 (.pointer none):=⟨⟨70,70,rfl,rfl,x9,x9,x9⟩,x9,x9,x9,x9⟩
theorem Tryz.app71_71:AppT prog #[71,71] 75 32 32 (.agg (xS 32 (.int .u8 0))):=⟨⟨71,71,rfl,rfl,x9,x9,x9⟩,x9,x9,x9,x9⟩
theorem Tryz.app84_84:AppT prog #[84,84] 83 33 56 (.agg (xS 32 (.int .u8 0)++#[.slice none 0 0])):=⟨⟨84,84,rfl,rfl,x9,x9,x9⟩,x9,x9,x9,x9⟩
theorem Tryz.app88_88:AppT prog #[88,88] 78 102 160 (.agg (#[.int .i64 0,.int .i64 0,.int .i64 0,.int .i64 0,.int .i64 0]++xS 96 (.int .u8 0)++#[.slice none 0 0])):=⟨⟨88,88,rfl,rfl,x9,x9,x9⟩,x9,x9,x9,x9⟩
theorem Tryz.app89_89:AppT prog #[89,89] 80 38 80 (.agg (#[.int .i64 0,.int .i64 0,.int .i64 0,.int .i64 0,.int .i64 0,.int .i64 0]++xS 32 (.int .u8 0))):=⟨⟨89,89,rfl,rfl,x9,x9,x9⟩,x9,x9,x9,x9⟩
theorem Tryz.app95_95:AppT prog #[95,95] 134 34 64 (.agg (xS 32 (.int .u8 0)++#[.bool false,.slice none 0 0])):=⟨⟨95,95,rfl,rfl,x9,x9,x9⟩,x9,x9,x9,x9⟩
theorem Tryz.app139_139:AppT prog #[139,139] 229 66 80 (.agg (#[.int .i64 0,.int .i64 0]++xS 64 (.int .u8 0))):=⟨⟨139,139,rfl,rfl,x9,x9,x9⟩,x9,x9,x9,x9⟩
theorem Tryz.by5:byO prog 5=some 1:=x9
theorem Tryz.by75:byO prog 75=some 32:=x9
theorem Tryz.eqg67:prog.eqGuardType prog.depth 67=false:=x9
theorem Tryz.eqg75:prog.eqGuardType prog.depth 75=false:=x9
theorem Tryz.eqg76:prog.eqGuardType prog.depth 76=false:=x9
theorem Tryz.eqg209:prog.eqGuardType prog.depth 209=false:=x9
theorem Tryz.eqg318:prog.eqGuardType prog.depth 318=false:=x9
attribute [go_sem] Tryz.agg3 Tryz.sz3 Tryz.int3 Tryz.flat3 Tryz.bool3 Tryz.zero3 Tryz.agg4 Tryz.flat4 Tryz.bool4 Tryz.agg5 Tryz.sz5 Tryz.int5 Tryz.flat5 Tryz.bool5 Tryz.zero5 Tryz.arr9 Tryz.str9 Tryz.map9 Tryz.flat9 Tryz.agg22 Tryz.sz22 Tryz.arr22 Tryz.slc22 Tryz.str22 Tryz.map22 Tryz.agg23 Tryz.sz23 Tryz.arr23 Tryz.slc23 Tryz.map23 Tryz.agg25 Tryz.sz25 Tryz.zero25 Tryz.places25 Tryz.flat26 Tryz.bool26 Tryz.agg34 Tryz.sz34 Tryz.int34 Tryz.flat34 Tryz.arr37 Tryz.slc37 Tryz.map37 Tryz.int39 Tryz.flat39 Tryz.sz43 Tryz.zero43 Tryz.places43 Tryz.agg45 Tryz.sz45 Tryz.arr45 Tryz.slc45 Tryz.map45 Tryz.agg63 Tryz.agg67 Tryz.sz67 Tryz.flat67 Tryz.zero67 Tryz.places67 Tryz.agg68 Tryz.map68 Tryz.agg69 Tryz.map69 Tryz.agg70 Tryz.sz70 Tryz.arr70 Tryz.slc70 Tryz.agg71 Tryz.sz71 Tryz.arr71 Tryz.slc71 Tryz.map71 Tryz.flat71 Tryz.zero73 Tryz.places73 Tryz.agg75 Tryz.sz75 Tryz.arr75 Tryz.flat75 Tryz.zero75 Tryz.places75 Tryz.agg76 Tryz.sz76 Tryz.arr76 Tryz.flat76 Tryz.zero76 Tryz.places76 Tryz.agg78 Tryz.sz78 Tryz.zero78 Tryz.places78 Tryz.agg80 Tryz.sz80 Tryz.zero80 Tryz.places80 Tryz.agg83 Tryz.sz83 Tryz.zero83 Tryz.places83 Tryz.agg84 Tryz.sz84 Tryz.arr84 Tryz.slc84 Tryz.map84 Tryz.zero84 Tryz.agg88 Tryz.sz88 Tryz.arr88 Tryz.slc88 Tryz.map88 Tryz.agg89 Tryz.sz89 Tryz.arr89 Tryz.slc89 Tryz.map89 Tryz.zero92 Tryz.places92 Tryz.arr95 Tryz.slc95 Tryz.str95 Tryz.map95 Tryz.sz119 Tryz.agg120 Tryz.sz120 Tryz.arr120 Tryz.zero120 Tryz.places120 Tryz.agg134 Tryz.sz134 Tryz.zero134 Tryz.places134 Tryz.agg139 Tryz.sz139 Tryz.arr139 Tryz.slc139 Tryz.map139 Tryz.agg141 Tryz.sz141 Tryz.zero141 Tryz.places141 Tryz.agg152 Tryz.map152 Tryz.agg153 Tryz.map153 Tryz.zero155 Tryz.places155 Tryz.agg156 Tryz.sz156 Tryz.zero156 Tryz.agg158 Tryz.sz158 Tryz.zero158 Tryz.places158 Tryz.agg173 Tryz.iface173 Tryz.zero173 Tryz.places173 Tryz.agg174 Tryz.iface174 Tryz.zero174 Tryz.places174 Tryz.zero187 Tryz.places187 Tryz.agg201 Tryz.sz201 Tryz.int201 Tryz.flat201 Tryz.arr208 Tryz.agg209 Tryz.sz209 Tryz.arr209 Tryz.flat209 Tryz.zero209 Tryz.places209 Tryz.zero213 Tryz.places213 Tryz.agg217 Tryz.sz217 Tryz.zero217 Tryz.agg229 Tryz.sz229 Tryz.zero229 Tryz.agg240 Tryz.sz240 Tryz.agg250 Tryz.sz250 Tryz.arr250 Tryz.zero250 Tryz.places250 Tryz.agg251 Tryz.sz251 Tryz.arr251 Tryz.zero251 Tryz.arr256 Tryz.agg265 Tryz.sz265 Tryz.zero265 Tryz.sz268 Tryz.arr268 Tryz.zero268 Tryz.places268 Tryz.arr270 Tryz.zero270 Tryz.arr308 Tryz.zero308 Tryz.places308 Tryz.flat310 Tryz.iface310 Tryz.agg315 Tryz.sz315 Tryz.iface315 Tryz.zero315 Tryz.places315 Tryz.agg318 Tryz.sz318 Tryz.flat318 Tryz.zero318 Tryz.places318 Tryz.agg320 Tryz.sz320 Tryz.iface320 Tryz.zero320 Tryz.places320 Tryz.fld25_4 Tryz.fld25_5 Tryz.fld25_6 Tryz.fld25_7 Tryz.fld25_8 Tryz.fld25_9 Tryz.fld67_0 Tryz.fld67_1 Tryz.fld67_2 Tryz.fld67_3 Tryz.fld67_4 Tryz.fld73_0 Tryz.fld73_1 Tryz.fld73_2 Tryz.fld73_3 Tryz.fld73_4 Tryz.fld73_5 Tryz.fld73_6 Tryz.fld73_7 Tryz.fld78_0 Tryz.fld78_1 Tryz.fld78_2 Tryz.fld78_3 Tryz.fld78_4 Tryz.fld78_5 Tryz.fld78_6 Tryz.fld78_7 Tryz.fld78_8 Tryz.fld80_0 Tryz.fld80_1 Tryz.fld80_2 Tryz.fld80_3 Tryz.fld80_4 Tryz.fld80_5 Tryz.fld80_6 Tryz.fld83_0 Tryz.fld83_1 Tryz.fld92_0 Tryz.fld92_1 Tryz.fld92_2 Tryz.fld92_3 Tryz.fld92_4 Tryz.fld92_6 Tryz.fld134_0 Tryz.fld134_1 Tryz.fld134_2 Tryz.fld141_0 Tryz.fld141_1 Tryz.fld141_2 Tryz.fld155_0 Tryz.fld155_1 Tryz.fld158_0 Tryz.fld158_1 Tryz.fld187_0 Tryz.fld187_1 Tryz.fld187_2 Tryz.fld187_3 Tryz.fld187_4 Tryz.fld187_5 Tryz.fld213_0 Tryz.fld213_1 Tryz.fld213_2 Tryz.fld213_3 Tryz.fld213_4 Tryz.fld217_0 Tryz.fld217_1 Tryz.fld217_2 Tryz.fld217_3 Tryz.fld229_0 Tryz.fld229_1 Tryz.fld229_2 Tryz.fld229_3 Tryz.fld265_0 Tryz.fld265_1 Tryz.fld265_2 Tryz.fld265_3 Tryz.fld315_0 Tryz.fld315_1 Tryz.fld318_0 Tryz.fld318_1 Tryz.fld318_2 Tryz.fld320_0 Tryz.fld320_1 Tryz.cv3_5 Tryz.cv3_39 Tryz.cv3_201 Tryz.cv5_3 Tryz.cv5_34 Tryz.cv22_9 Tryz.cv34_5 Tryz.cv201_5 Tryz.eqg67 Tryz.eqg75 Tryz.eqg76 Tryz.eqg209 Tryz.eqg318
abbrev GoT (n:Nat)(f:FuncId)(B:Func)(A:List Nat):Prop:=∀ {args:Array Value} {w:World} {K:Value->World->Prop}, args.size<=n->DenF prog B A args w K->Fn prog f args w K
theorem goT {n:Nat}{f:FuncId}{D:Func}{A:List Nat}(E:prog.funcs[f]?=some D)(h:(D.body.isSome && codeOk prog D.ntmps A (bodyOf D))=true)(H:D.ntmps=n):GoT n f D A :=
 fun {_ _ _} B=>fn_of_denF A E (Bool.and_eq_true_iff.1 h).1 (Bool.and_eq_true_iff.1 h).2 H B
theorem Tryz.go3:GoT 55 3 Tryz.f3 [6]:=goT Tryz.func3 x9 Tryz.ntmps3
theorem Tryz.pl8:qQe prog 8=true:=x9
theorem Tryz.go8:GoT 91 8 Tryz.f8 [4,11,13]:=goT Tryz.func8 x9 Tryz.ntmps8
theorem Tryz.pl9:qQe prog 9=true:=x9
theorem Tryz.go9:GoT 6 9 Tryz.f9 []:=goT Tryz.func9 x9 Tryz.ntmps9
theorem Tryz.pl10:qQe prog 10=true:=x9
theorem Tryz.go10:GoT 24 10 Tryz.f10 []:=goT Tryz.func10 x9 Tryz.ntmps10
theorem Tryz.pl11:qQe prog 11=true:=x9
theorem Tryz.go11:GoT 132 11 Tryz.f11 [17,31]:=goT Tryz.func11 x9 Tryz.ntmps11
theorem Tryz.pl12:qQe prog 12=true:=x9
theorem Tryz.go12:GoT 46 12 Tryz.f12 []:=goT Tryz.func12 x9 Tryz.ntmps12
theorem Tryz.pl14:qQe prog 14=true:=x9
theorem Tryz.go14:GoT 100 14 Tryz.f14 []:=goT Tryz.func14 x9 Tryz.ntmps14
theorem Tryz.pl23:qQe prog 23=true:=x9
theorem Tryz.go23:GoT 85 23 Tryz.f23 []:=goT Tryz.func23 x9 Tryz.ntmps23
theorem Tryz.pl24:qQe prog 24=true:=x9
theorem Tryz.go24:GoT 40 24 Tryz.f24 []:=goT Tryz.func24 x9 Tryz.ntmps24
theorem Tryz.pl25:qQe prog 25=true:=x9
theorem Tryz.go25:GoT 59 25 Tryz.f25 []:=goT Tryz.func25 x9 Tryz.ntmps25
theorem Tryz.pl26:qQe prog 26=true:=x9
theorem Tryz.go26:GoT 85 26 Tryz.f26 [11,12]:=goT Tryz.func26 x9 Tryz.ntmps26
theorem Tryz.pl27:qQe prog 27=true:=x9
theorem Tryz.go27:GoT 95 27 Tryz.f27 []:=goT Tryz.func27 x9 Tryz.ntmps27
theorem Tryz.pl28:qQe prog 28=true:=x9
theorem Tryz.go28:GoT 14 28 Tryz.f28 []:=goT Tryz.func28 x9 Tryz.ntmps28
theorem Tryz.pl29:qQe prog 29=true:=x9
theorem Tryz.go29:GoT 97 29 Tryz.f29 []:=goT Tryz.func29 x9 Tryz.ntmps29
theorem Tryz.pl30:qQe prog 30=true:=x9
theorem Tryz.go30:GoT 109 30 Tryz.f30 [10,14,17]:=goT Tryz.func30 x9 Tryz.ntmps30
theorem Tryz.pl31:qQe prog 31=true:=x9
theorem Tryz.go31:GoT 32 31 Tryz.f31 []:=goT Tryz.func31 x9 Tryz.ntmps31
theorem Tryz.pl41:qQe prog 41=true:=x9
theorem Tryz.go41:GoT 50 41 Tryz.f41 []:=goT Tryz.func41 x9 Tryz.ntmps41
theorem Tryz.pl42:qQe prog 42=true:=x9
theorem Tryz.go42:GoT 15 42 Tryz.f42 []:=goT Tryz.func42 x9 Tryz.ntmps42
theorem Tryz.pl43:qQe prog 43=true:=x9
theorem Tryz.go43:GoT 6 43 Tryz.f43 []:=goT Tryz.func43 x9 Tryz.ntmps43
theorem Tryz.pl44:qQe prog 44=true:=x9
theorem Tryz.go44:GoT 18 44 Tryz.f44 []:=goT Tryz.func44 x9 Tryz.ntmps44
theorem Tryz.pl45:qQe prog 45=true:=x9
theorem Tryz.go45:GoT 58 45 Tryz.f45 []:=goT Tryz.func45 x9 Tryz.ntmps45
theorem Tryz.pl46:qQe prog 46=true:=x9
theorem Tryz.go46:GoT 48 46 Tryz.f46 []:=goT Tryz.func46 x9 Tryz.ntmps46
theorem Tryz.pl47:qQe prog 47=true:=x9
theorem Tryz.go47:GoT 12 47 Tryz.f47 []:=goT Tryz.func47 x9 Tryz.ntmps47
theorem Tryz.pl48:qQe prog 48=true:=x9
theorem Tryz.go48:GoT 18 48 Tryz.f48 []:=goT Tryz.func48 x9 Tryz.ntmps48
theorem Tryz.pl49:qQe prog 49=true:=x9
theorem Tryz.go49:GoT 53 49 Tryz.f49 []:=goT Tryz.func49 x9 Tryz.ntmps49
theorem Tryz.pl50:qQe prog 50=true:=x9
theorem Tryz.go50:GoT 42 50 Tryz.f50 []:=goT Tryz.func50 x9 Tryz.ntmps50
theorem Tryz.pl51:qQe prog 51=true:=x9
theorem Tryz.go51:GoT 97 51 Tryz.f51 [12]:=goT Tryz.func51 x9 Tryz.ntmps51
theorem Tryz.pl52:qQe prog 52=true:=x9
theorem Tryz.go52:GoT 53 52 Tryz.f52 []:=goT Tryz.func52 x9 Tryz.ntmps52
theorem Tryz.pl53:qQe prog 53=true:=x9
theorem Tryz.go53:GoT 42 53 Tryz.f53 []:=goT Tryz.func53 x9 Tryz.ntmps53
theorem Tryz.pl54:qQe prog 54=true:=x9
theorem Tryz.go54:GoT 24 54 Tryz.f54 []:=goT Tryz.func54 x9 Tryz.ntmps54
theorem Tryz.pl55:qQe prog 55=true:=x9
theorem Tryz.go55:GoT 24 55 Tryz.f55 []:=goT Tryz.func55 x9 Tryz.ntmps55
theorem Tryz.pl56:qQe prog 56=true:=x9
theorem Tryz.go56:GoT 40 56 Tryz.f56 [3]:=goT Tryz.func56 x9 Tryz.ntmps56
theorem Tryz.pl57:qQe prog 57=true:=x9
theorem Tryz.go57:GoT 24 57 Tryz.f57 []:=goT Tryz.func57 x9 Tryz.ntmps57
theorem Tryz.pl58:qQe prog 58=true:=x9
theorem Tryz.go58:GoT 68 58 Tryz.f58 []:=goT Tryz.func58 x9 Tryz.ntmps58
theorem Tryz.pl59:qQe prog 59=true:=x9
theorem Tryz.go59:GoT 11 59 Tryz.f59 []:=goT Tryz.func59 x9 Tryz.ntmps59
theorem Tryz.pl60:qQe prog 60=true:=x9
theorem Tryz.go60:GoT 60 60 Tryz.f60 []:=goT Tryz.func60 x9 Tryz.ntmps60
theorem Tryz.pl61:qQe prog 61=true:=x9
theorem Tryz.go61:GoT 41 61 Tryz.f61 []:=goT Tryz.func61 x9 Tryz.ntmps61
theorem Tryz.pl62:qQe prog 62=true:=x9
theorem Tryz.go62:GoT 35 62 Tryz.f62 []:=goT Tryz.func62 x9 Tryz.ntmps62
theorem Tryz.pl63:qQe prog 63=true:=x9
theorem Tryz.go63:GoT 21 63 Tryz.f63 []:=goT Tryz.func63 x9 Tryz.ntmps63
theorem Tryz.pl64:qQe prog 64=true:=x9
theorem Tryz.go64:GoT 27 64 Tryz.f64 []:=goT Tryz.func64 x9 Tryz.ntmps64
theorem Tryz.pl65:qQe prog 65=true:=x9
theorem Tryz.go65:GoT 36 65 Tryz.f65 []:=goT Tryz.func65 x9 Tryz.ntmps65
theorem Tryz.pl66:qQe prog 66=true:=x9
theorem Tryz.go66:GoT 24 66 Tryz.f66 []:=goT Tryz.func66 x9 Tryz.ntmps66
theorem Tryz.pl79:qQe prog 79=true:=x9
theorem Tryz.go79:GoT 55 79 Tryz.f79 [8]:=goT Tryz.func79 x9 Tryz.ntmps79
theorem Tryz.pl80:qQe prog 80=true:=x9
theorem Tryz.go80:GoT 48 80 Tryz.f80 [6]:=goT Tryz.func80 x9 Tryz.ntmps80
theorem Tryz.pl81:qQe prog 81=true:=x9
theorem Tryz.go81:GoT 14 81 Tryz.f81 []:=goT Tryz.func81 x9 Tryz.ntmps81
theorem Tryz.pl82:qQe prog 82=true:=x9
theorem Tryz.go82:GoT 150 82 Tryz.f82 [2,6,14,22]:=goT Tryz.func82 x9 Tryz.ntmps82
theorem Tryz.pl83:qQe prog 83=true:=x9
theorem Tryz.go83:GoT 65 83 Tryz.f83 [7]:=goT Tryz.func83 x9 Tryz.ntmps83
theorem Tryz.pl84:qQe prog 84=true:=x9
theorem Tryz.go84:GoT 60 84 Tryz.f84 []:=goT Tryz.func84 x9 Tryz.ntmps84
theorem Tryz.pl85:qQe prog 85=true:=x9
theorem Tryz.go85:GoT 10 85 Tryz.f85 []:=goT Tryz.func85 x9 Tryz.ntmps85
theorem Tryz.pl86:qQe prog 86=true:=x9
theorem Tryz.go86:GoT 32 86 Tryz.f86 []:=goT Tryz.func86 x9 Tryz.ntmps86
theorem Tryz.pl87:qQe prog 87=true:=x9
theorem Tryz.go87:GoT 28 87 Tryz.f87 []:=goT Tryz.func87 x9 Tryz.ntmps87
theorem Tryz.pl88:qQe prog 88=true:=x9
theorem Tryz.go88:GoT 19 88 Tryz.f88 []:=goT Tryz.func88 x9 Tryz.ntmps88
theorem Tryz.pl89:qQe prog 89=true:=x9
theorem Tryz.go89:GoT 34 89 Tryz.f89 []:=goT Tryz.func89 x9 Tryz.ntmps89
theorem Tryz.pl90:qQe prog 90=true:=x9
theorem Tryz.go90:GoT 95 90 Tryz.f90 []:=goT Tryz.func90 x9 Tryz.ntmps90
theorem Tryz.pl91:qQe prog 91=true:=x9
theorem Tryz.go91:GoT 34 91 Tryz.f91 []:=goT Tryz.func91 x9 Tryz.ntmps91
theorem Tryz.pl92:qQe prog 92=true:=x9
theorem Tryz.go92:GoT 102 92 Tryz.f92 []:=goT Tryz.func92 x9 Tryz.ntmps92
theorem Tryz.pl93:qQe prog 93=true:=x9
theorem Tryz.go93:GoT 17 93 Tryz.f93 []:=goT Tryz.func93 x9 Tryz.ntmps93
theorem Tryz.pl94:qQe prog 94=true:=x9
theorem Tryz.go94:GoT 67 94 Tryz.f94 []:=goT Tryz.func94 x9 Tryz.ntmps94
theorem Tryz.pl95:qQe prog 95=true:=x9
theorem Tryz.go95:GoT 11 95 Tryz.f95 []:=goT Tryz.func95 x9 Tryz.ntmps95
theorem Tryz.pl96:qQe prog 96=true:=x9
theorem Tryz.go96:GoT 15 96 Tryz.f96 []:=goT Tryz.func96 x9 Tryz.ntmps96
theorem Tryz.pl97:qQe prog 97=true:=x9
theorem Tryz.go97:GoT 217 97 Tryz.f97 [10,19,23,24,31,32]:=goT Tryz.func97 x9 Tryz.ntmps97
theorem Tryz.pl98:qQe prog 98=true:=x9
theorem Tryz.go98:GoT 20 98 Tryz.f98 []:=goT Tryz.func98 x9 Tryz.ntmps98
theorem Tryz.pl99:qQe prog 99=true:=x9
theorem Tryz.go99:GoT 19 99 Tryz.f99 []:=goT Tryz.func99 x9 Tryz.ntmps99
theorem Tryz.pl100:qQe prog 100=true:=x9
theorem Tryz.go100:GoT 67 100 Tryz.f100 [4]:=goT Tryz.func100 x9 Tryz.ntmps100
theorem Tryz.pl101:qQe prog 101=true:=x9
theorem Tryz.go101:GoT 19 101 Tryz.f101 []:=goT Tryz.func101 x9 Tryz.ntmps101
theorem Tryz.pl102:qQe prog 102=true:=x9
theorem Tryz.go102:GoT 23 102 Tryz.f102 []:=goT Tryz.func102 x9 Tryz.ntmps102
theorem Tryz.pl103:qQe prog 103=true:=x9
theorem Tryz.go103:GoT 6 103 Tryz.f103 []:=goT Tryz.func103 x9 Tryz.ntmps103
theorem Tryz.pl121:qQe prog 121=true:=x9
theorem Tryz.go121:GoT 54 121 Tryz.f121 []:=goT Tryz.func121 x9 Tryz.ntmps121
theorem Tryz.pl122:qQe prog 122=true:=x9
theorem Tryz.go122:GoT 14 122 Tryz.f122 []:=goT Tryz.func122 x9 Tryz.ntmps122
theorem Tryz.pl123:qQe prog 123=true:=x9
theorem Tryz.go123:GoT 22 123 Tryz.f123 []:=goT Tryz.func123 x9 Tryz.ntmps123
theorem Tryz.pl124:qQe prog 124=true:=x9
theorem Tryz.go124:GoT 60 124 Tryz.f124 []:=goT Tryz.func124 x9 Tryz.ntmps124
theorem Tryz.pl125:qQe prog 125=true:=x9
theorem Tryz.go125:GoT 53 125 Tryz.f125 []:=goT Tryz.func125 x9 Tryz.ntmps125
theorem Tryz.pl126:qQe prog 126=true:=x9
theorem Tryz.go126:GoT 106 126 Tryz.f126 [4,15]:=goT Tryz.func126 x9 Tryz.ntmps126
theorem Tryz.pl127:qQe prog 127=true:=x9
theorem Tryz.go127:GoT 56 127 Tryz.f127 []:=goT Tryz.func127 x9 Tryz.ntmps127
theorem Tryz.pl128:qQe prog 128=true:=x9
theorem Tryz.go128:GoT 9 128 Tryz.f128 []:=goT Tryz.func128 x9 Tryz.ntmps128
theorem Tryz.pl129:qQe prog 129=true:=x9
theorem Tryz.go129:GoT 12 129 Tryz.f129 []:=goT Tryz.func129 x9 Tryz.ntmps129
theorem Tryz.pl130:qQe prog 130=true:=x9
theorem Tryz.go130:GoT 30 130 Tryz.f130 []:=goT Tryz.func130 x9 Tryz.ntmps130
theorem Tryz.pl131:qQe prog 131=true:=x9
theorem Tryz.go131:GoT 19 131 Tryz.f131 []:=goT Tryz.func131 x9 Tryz.ntmps131
theorem Tryz.pl132:qQe prog 132=true:=x9
theorem Tryz.go132:GoT 42 132 Tryz.f132 []:=goT Tryz.func132 x9 Tryz.ntmps132
theorem Tryz.pl133:qQe prog 133=true:=x9
theorem Tryz.go133:GoT 16 133 Tryz.f133 []:=goT Tryz.func133 x9 Tryz.ntmps133
theorem Tryz.pl134:qQe prog 134=true:=x9
theorem Tryz.go134:GoT 37 134 Tryz.f134 []:=goT Tryz.func134 x9 Tryz.ntmps134
theorem Tryz.pl135:qQe prog 135=true:=x9
theorem Tryz.go135:GoT 42 135 Tryz.f135 []:=goT Tryz.func135 x9 Tryz.ntmps135
theorem Tryz.pl136:qQe prog 136=true:=x9
theorem Tryz.go136:GoT 48 136 Tryz.f136 [6]:=goT Tryz.func136 x9 Tryz.ntmps136
theorem Tryz.pl137:qQe prog 137=true:=x9
theorem Tryz.go137:GoT 71 137 Tryz.f137 []:=goT Tryz.func137 x9 Tryz.ntmps137
theorem Tryz.pl138:qQe prog 138=true:=x9
theorem Tryz.go138:GoT 38 138 Tryz.f138 []:=goT Tryz.func138 x9 Tryz.ntmps138
theorem Tryz.pl139:qQe prog 139=true:=x9
theorem Tryz.go139:GoT 10 139 Tryz.f139 []:=goT Tryz.func139 x9 Tryz.ntmps139
theorem Tryz.pl140:qQe prog 140=true:=x9
theorem Tryz.go140:GoT 43 140 Tryz.f140 [6]:=goT Tryz.func140 x9 Tryz.ntmps140
theorem Tryz.pl141:qQe prog 141=true:=x9
theorem Tryz.go141:GoT 51 141 Tryz.f141 []:=goT Tryz.func141 x9 Tryz.ntmps141
theorem Tryz.pl142:qQe prog 142=true:=x9
theorem Tryz.go142:GoT 27 142 Tryz.f142 [1]:=goT Tryz.func142 x9 Tryz.ntmps142
theorem Tryz.pl143:qQe prog 143=true:=x9
theorem Tryz.go143:GoT 23 143 Tryz.f143 []:=goT Tryz.func143 x9 Tryz.ntmps143
theorem Tryz.pl144:qQe prog 144=true:=x9
theorem Tryz.go144:GoT 14 144 Tryz.f144 []:=goT Tryz.func144 x9 Tryz.ntmps144
theorem Tryz.pl145:qQe prog 145=true:=x9
theorem Tryz.go145:GoT 88 145 Tryz.f145 []:=goT Tryz.func145 x9 Tryz.ntmps145
theorem Tryz.pl158:qQe prog 158=true:=x9
theorem Tryz.go158:GoT 5 158 Tryz.f158 []:=goT Tryz.func158 x9 Tryz.ntmps158
theorem Tryz.pl159:qQe prog 159=true:=x9
theorem Tryz.go159:GoT 20 159 Tryz.f159 []:=goT Tryz.func159 x9 Tryz.ntmps159
theorem Tryz.pl160:qQe prog 160=true:=x9
theorem Tryz.go160:GoT 14 160 Tryz.f160 []:=goT Tryz.func160 x9 Tryz.ntmps160
theorem Tryz.pl161:qQe prog 161=true:=x9
theorem Tryz.go161:GoT 60 161 Tryz.f161 [1,5]:=goT Tryz.func161 x9 Tryz.ntmps161
theorem Tryz.pl162:qQe prog 162=true:=x9
theorem Tryz.go162:GoT 56 162 Tryz.f162 [6,8]:=goT Tryz.func162 x9 Tryz.ntmps162
theorem Tryz.pl163:qQe prog 163=true:=x9
theorem Tryz.go163:GoT 159 163 Tryz.f163 [1,3,9]:=goT Tryz.func163 x9 Tryz.ntmps163
theorem Tryz.pl164:qQe prog 164=true:=x9
theorem Tryz.go164:GoT 42 164 Tryz.f164 [3]:=goT Tryz.func164 x9 Tryz.ntmps164
theorem Tryz.pl165:qQe prog 165=true:=x9
theorem Tryz.go165:GoT 38 165 Tryz.f165 []:=goT Tryz.func165 x9 Tryz.ntmps165
theorem Tryz.pl166:qQe prog 166=true:=x9
theorem Tryz.go166:GoT 104 166 Tryz.f166 [10,11]:=goT Tryz.func166 x9 Tryz.ntmps166
theorem Tryz.pl167:qQe prog 167=true:=x9
theorem Tryz.go167:GoT 119 167 Tryz.f167 [5,8]:=goT Tryz.func167 x9 Tryz.ntmps167
theorem Tryz.pl168:qQe prog 168=true:=x9
theorem Tryz.go168:GoT 16 168 Tryz.f168 []:=goT Tryz.func168 x9 Tryz.ntmps168
theorem Tryz.pl169:qQe prog 169=true:=x9
theorem Tryz.go169:GoT 22 169 Tryz.f169 []:=goT Tryz.func169 x9 Tryz.ntmps169
theorem Tryz.pl170:qQe prog 170=true:=x9
theorem Tryz.go170:GoT 22 170 Tryz.f170 []:=goT Tryz.func170 x9 Tryz.ntmps170
theorem Tryz.pl171:qQe prog 171=true:=x9
theorem Tryz.go171:GoT 28 171 Tryz.f171 []:=goT Tryz.func171 x9 Tryz.ntmps171
theorem Tryz.pl172:qQe prog 172=true:=x9
theorem Tryz.go172:GoT 33 172 Tryz.f172 []:=goT Tryz.func172 x9 Tryz.ntmps172
theorem Tryz.pl173:qQe prog 173=true:=x9
theorem Tryz.go173:GoT 28 173 Tryz.f173 []:=goT Tryz.func173 x9 Tryz.ntmps173
theorem Tryz.pl179:qQe prog 179=true:=x9
theorem Tryz.go179:GoT 10 179 Tryz.f179 []:=goT Tryz.func179 x9 Tryz.ntmps179
theorem Tryz.pl180:qQe prog 180=true:=x9
theorem Tryz.go180:GoT 15 180 Tryz.f180 []:=goT Tryz.func180 x9 Tryz.ntmps180
theorem Tryz.pl181:qQe prog 181=true:=x9
theorem Tryz.go181:GoT 9 181 Tryz.f181 []:=goT Tryz.func181 x9 Tryz.ntmps181
theorem Tryz.pl182:qQe prog 182=true:=x9
theorem Tryz.go182:GoT 12 182 Tryz.f182 []:=goT Tryz.func182 x9 Tryz.ntmps182
theorem Tryz.pl183:qQe prog 183=true:=x9
theorem Tryz.go183:GoT 24 183 Tryz.f183 []:=goT Tryz.func183 x9 Tryz.ntmps183
theorem Tryz.pl184:qQe prog 184=true:=x9
theorem Tryz.go184:GoT 28 184 Tryz.f184 []:=goT Tryz.func184 x9 Tryz.ntmps184
theorem Tryz.pl185:qQe prog 185=true:=x9
theorem Tryz.go185:GoT 26 185 Tryz.f185 []:=goT Tryz.func185 x9 Tryz.ntmps185
theorem Tryz.pl186:qQe prog 186=true:=x9
theorem Tryz.go186:GoT 10 186 Tryz.f186 []:=goT Tryz.func186 x9 Tryz.ntmps186
theorem Tryz.pl187:qQe prog 187=true:=x9
theorem Tryz.go187:GoT 45 187 Tryz.f187 []:=goT Tryz.func187 x9 Tryz.ntmps187
theorem Tryz.pl188:qQe prog 188=true:=x9
theorem Tryz.go188:GoT 13 188 Tryz.f188 []:=goT Tryz.func188 x9 Tryz.ntmps188
theorem Tryz.pl189:qQe prog 189=true:=x9
theorem Tryz.go189:GoT 35 189 Tryz.f189 []:=goT Tryz.func189 x9 Tryz.ntmps189
theorem Tryz.pl190:qQe prog 190=true:=x9
theorem Tryz.go190:GoT 73 190 Tryz.f190 []:=goT Tryz.func190 x9 Tryz.ntmps190
theorem Tryz.pl191:qQe prog 191=true:=x9
theorem Tryz.go191:GoT 76 191 Tryz.f191 []:=goT Tryz.func191 x9 Tryz.ntmps191
theorem Tryz.pl192:qQe prog 192=true:=x9
theorem Tryz.go192:GoT 6 192 Tryz.f192 []:=goT Tryz.func192 x9 Tryz.ntmps192
theorem Tryz.pl193:qQe prog 193=true:=x9
theorem Tryz.go193:GoT 13 193 Tryz.f193 []:=goT Tryz.func193 x9 Tryz.ntmps193
theorem Tryz.pl194:qQe prog 194=true:=x9
theorem Tryz.go194:GoT 21 194 Tryz.f194 []:=goT Tryz.func194 x9 Tryz.ntmps194
theorem Tryz.pl195:qQe prog 195=true:=x9
theorem Tryz.go195:GoT 231 195 Tryz.f195 [17]:=goT Tryz.func195 x9 Tryz.ntmps195
theorem Tryz.pl196:qQe prog 196=true:=x9
theorem Tryz.go196:GoT 6 196 Tryz.f196 []:=goT Tryz.func196 x9 Tryz.ntmps196
theorem Tryz.pl197:qQe prog 197=true:=x9
theorem Tryz.go197:GoT 17 197 Tryz.f197 []:=goT Tryz.func197 x9 Tryz.ntmps197
theorem Tryz.pl198:qQe prog 198=true:=x9
theorem Tryz.go198:GoT 17 198 Tryz.f198 []:=goT Tryz.func198 x9 Tryz.ntmps198
theorem Tryz.pl215:qQe prog 215=true:=x9
theorem Tryz.go215:GoT 18 215 Tryz.f215 []:=goT Tryz.func215 x9 Tryz.ntmps215
theorem Tryz.pl216:qQe prog 216=true:=x9
theorem Tryz.go216:GoT 42 216 Tryz.f216 []:=goT Tryz.func216 x9 Tryz.ntmps216
theorem Tryz.pl217:qQe prog 217=true:=x9
theorem Tryz.go217:GoT 21 217 Tryz.f217 []:=goT Tryz.func217 x9 Tryz.ntmps217
theorem Tryz.pl218:qQe prog 218=true:=x9
theorem Tryz.go218:GoT 24 218 Tryz.f218 []:=goT Tryz.func218 x9 Tryz.ntmps218
theorem Tryz.pl230:qQe prog 230=true:=x9
theorem Tryz.go230:GoT 68 230 Tryz.f230 []:=goT Tryz.func230 x9 Tryz.ntmps230
theorem Tryz.pl231:qQe prog 231=true:=x9
theorem Tryz.go231:GoT 52 231 Tryz.f231 []:=goT Tryz.func231 x9 Tryz.ntmps231
theorem Tryz.pl232:qQe prog 232=true:=x9
theorem Tryz.go232:GoT 62 232 Tryz.f232 []:=goT Tryz.func232 x9 Tryz.ntmps232
theorem Tryz.pl233:qQe prog 233=true:=x9
theorem Tryz.go233:GoT 20 233 Tryz.f233 []:=goT Tryz.func233 x9 Tryz.ntmps233
theorem Tryz.pl234:qQe prog 234=true:=x9
theorem Tryz.go234:GoT 9 234 Tryz.f234 []:=goT Tryz.func234 x9 Tryz.ntmps234
theorem Tryz.pl235:qQe prog 235=true:=x9
theorem Tryz.go235:GoT 8 235 Tryz.f235 []:=goT Tryz.func235 x9 Tryz.ntmps235
theorem Tryz.pl236:qQe prog 236=true:=x9
theorem Tryz.go236:GoT 88 236 Tryz.f236 []:=goT Tryz.func236 x9 Tryz.ntmps236
theorem Tryz.pl237:qQe prog 237=true:=x9
theorem Tryz.go237:GoT 60 237 Tryz.f237 [6]:=goT Tryz.func237 x9 Tryz.ntmps237
theorem Tryz.pl238:qQe prog 238=true:=x9
theorem Tryz.go238:GoT 38 238 Tryz.f238 [4,7]:=goT Tryz.func238 x9 Tryz.ntmps238
theorem Tryz.pl239:qQe prog 239=true:=x9
theorem Tryz.go239:GoT 23 239 Tryz.f239 []:=goT Tryz.func239 x9 Tryz.ntmps239
theorem Tryz.pl240:qQe prog 240=true:=x9
theorem Tryz.go240:GoT 9 240 Tryz.f240 []:=goT Tryz.func240 x9 Tryz.ntmps240
theorem Tryz.pl241:qQe prog 241=true:=x9
theorem Tryz.go241:GoT 14 241 Tryz.f241 []:=goT Tryz.func241 x9 Tryz.ntmps241
theorem Tryz.pl242:qQe prog 242=true:=x9
theorem Tryz.go242:GoT 25 242 Tryz.f242 []:=goT Tryz.func242 x9 Tryz.ntmps242
theorem Tryz.pl246:qQe prog 246=true:=x9
theorem Tryz.go246:GoT 7 246 Tryz.f246 []:=goT Tryz.func246 x9 Tryz.ntmps246
theorem Tryz.pl247:qQe prog 247=true:=x9
theorem Tryz.go247:GoT 27 247 Tryz.f247 []:=goT Tryz.func247 x9 Tryz.ntmps247
theorem Tryz.pl249:qQe prog 249=true:=x9
theorem Tryz.go249:GoT 36 249 Tryz.f249 []:=goT Tryz.func249 x9 Tryz.ntmps249
attribute [go_sem] List.getElem?_toArray List.getElem?_cons_zero List.getElem?_cons_succ
end
end Go.V
