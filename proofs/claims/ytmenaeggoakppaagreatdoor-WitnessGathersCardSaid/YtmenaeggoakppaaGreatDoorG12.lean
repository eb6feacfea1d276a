/- Helpers. -/
import Derived.Test.YtmenaeggoakppaaGreatDoorProg
import Derived.Test.YtmenaeggoakppaaGreatDoorG09
set_option linter.all false
set_option maxRecDepth 100000
set_option maxHeartbeats 8000000
open Array renaming replicate→xR
namespace Go.V
open Go.Proofs.Tryz
section
open Go.Proofs
theorem Tryz.agg3:aggO prog 3=some false:=by kernel_rfl
theorem Tryz.sz3:szO prog 3=some 1:=by kernel_rfl
theorem Tryz.int3:intO prog 3=some .i64:=by kernel_rfl
theorem Tryz.flat3:flatT prog 3=true:=by kernel_rfl
theorem Tryz.bool3:boolT prog 3=false:=by kernel_rfl
theorem Tryz.agg4:aggO prog 4=some false:=by kernel_rfl
theorem Tryz.sz4:szO prog 4=some 1:=by kernel_rfl
theorem Tryz.flat4:flatT prog 4=true:=by kernel_rfl
theorem Tryz.bool4:boolT prog 4=true:=by kernel_rfl
theorem Tryz.agg5:aggO prog 5=some false:=by kernel_rfl
theorem Tryz.sz5:szO prog 5=some 1:=by kernel_rfl
theorem Tryz.int5:intO prog 5=some .u8:=by kernel_rfl
theorem Tryz.flat5:flatT prog 5=true:=by kernel_rfl
theorem Tryz.bool5:boolT prog 5=false:=by kernel_rfl
theorem Tryz.zero5:zeroO prog 5=some (.int .u8 0):=by kernel_rfl
theorem Tryz.str9:strO prog 9=true:=by kernel_rfl
theorem Tryz.agg22:aggO prog 22=some true:=by kernel_rfl
theorem Tryz.sz22:szO prog 22=some 32:=by kernel_rfl
theorem Tryz.arr22:arrO prog 22=some (32,5):=by kernel_rfl
theorem Tryz.agg23:aggO prog 23=some true:=by kernel_rfl
theorem Tryz.sz23:szO prog 23=some 32:=by kernel_rfl
theorem Tryz.arr23:arrO prog 23=some (32,5):=by kernel_rfl
theorem Tryz.flat23:flatT prog 23=false:=by kernel_rfl
theorem Tryz.zero23:zeroO prog 23=some (.agg (xR 32 (.int .u8 0))):=by kernel_rfl
theorem Tryz.agg24:aggO prog 24=some false:=by kernel_rfl
theorem Tryz.sz24:szO prog 24=some 1:=by kernel_rfl
theorem Tryz.arr24:arrO prog 24=none:=by kernel_rfl
theorem Tryz.slc24:slcO prog 24=some 34:=by kernel_rfl
theorem Tryz.str24:strO prog 24=false:=by kernel_rfl
theorem Tryz.map24:mapO prog 24=none:=by kernel_rfl
theorem Tryz.flat24:flatT prog 24=false:=by kernel_rfl
theorem Tryz.agg25:aggO prog 25=some false:=by kernel_rfl
theorem Tryz.sz25:szO prog 25=some 1:=by kernel_rfl
theorem Tryz.arr25:arrO prog 25=none:=by kernel_rfl
theorem Tryz.slc25:slcO prog 25=some 5:=by kernel_rfl
theorem Tryz.str25:strO prog 25=false:=by kernel_rfl
theorem Tryz.map25:mapO prog 25=none:=by kernel_rfl
theorem Tryz.flat25:flatT prog 25=false:=by kernel_rfl
theorem Tryz.zero25:zeroO prog 25=some (.slice none 0 0):=by kernel_rfl
theorem Tryz.agg34:aggO prog 34=some true:=by kernel_rfl
theorem Tryz.sz34:szO prog 34=some 32:=by kernel_rfl
theorem Tryz.arr34:arrO prog 34=some (32,5):=by kernel_rfl
theorem Tryz.flat34:flatT prog 34=false:=by kernel_rfl
theorem Tryz.zero34:zeroO prog 34=some (.agg (xR 32 (.int .u8 0))):=by kernel_rfl
theorem Tryz.agg37:aggO prog 37=some false:=by kernel_rfl
theorem Tryz.sz37:szO prog 37=some 1:=by kernel_rfl
theorem Tryz.arr37:arrO prog 37=none:=by kernel_rfl
theorem Tryz.slc37:slcO prog 37=some 25:=by kernel_rfl
theorem Tryz.map37:mapO prog 37=none:=by kernel_rfl
theorem Tryz.arr47:arrO prog 47=none:=by kernel_rfl
theorem Tryz.slc47:slcO prog 47=some 69:=by kernel_rfl
theorem Tryz.map47:mapO prog 47=none:=by kernel_rfl
theorem Tryz.flat48:flatT prog 48=true:=by kernel_rfl
theorem Tryz.agg65:aggO prog 65=some true:=by kernel_rfl
theorem Tryz.sz65:szO prog 65=some 33:=by kernel_rfl
theorem Tryz.zero65:zeroO prog 65=some (.agg (xR 32 (.int .u8 0)++#[.slice none 0 0])):=by kernel_rfl
theorem Tryz.places65:qJl prog 65=some [(0,32),(32,1)]:=by kernel_rfl
theorem Tryz.arr66:arrO prog 66=none:=by kernel_rfl
theorem Tryz.slc66:slcO prog 66=some 65:=by kernel_rfl
theorem Tryz.map66:mapO prog 66=none:=by kernel_rfl
theorem Tryz.agg69:aggO prog 69=some true:=by kernel_rfl
theorem Tryz.sz69:szO prog 69=some 2:=by kernel_rfl
theorem Tryz.zero69:zeroO prog 69=some (.agg #[.bool false,.slice none 0 0]):=by kernel_rfl
theorem Tryz.places69:qJl prog 69=some [(0,1),(1,1)]:=by kernel_rfl
theorem Tryz.agg91:aggO prog 91=some false:=by kernel_rfl
theorem Tryz.sz91:szO prog 91=some 1:=by kernel_rfl
theorem Tryz.flat91:flatT prog 91=false:=by kernel_rfl
theorem Tryz.ptr91:ptrO prog 91=some 8:=by kernel_rfl
theorem Tryz.zero91:zeroO prog 91=some (.pointer none):=by kernel_rfl
theorem Tryz.agg94:aggO prog 94=some false:=by kernel_rfl
theorem Tryz.sz94:szO prog 94=some 1:=by kernel_rfl
theorem Tryz.arr94:arrO prog 94=none:=by kernel_rfl
theorem Tryz.slc94:slcO prog 94=some 23:=by kernel_rfl
theorem Tryz.map94:mapO prog 94=none:=by kernel_rfl
theorem Tryz.flat94:flatT prog 94=false:=by kernel_rfl
theorem Tryz.zero94:zeroO prog 94=some (.slice none 0 0):=by kernel_rfl
theorem Tryz.zero96:zeroO prog 96=some (.agg #[.slice none 0 0,.int .i64 0,.int .i64 0,.slice none 0 0,.bool false,.slice none 0 0,.pointer none,.pointer none]):=by kernel_rfl
theorem Tryz.places96:qJl prog 96=some [(0,1),(1,1),(2,1),(3,1),(4,2),(6,1),(7,1)]:=by kernel_rfl
theorem Tryz.agg99:aggO prog 99=some false:=by kernel_rfl
theorem Tryz.sz99:szO prog 99=some 1:=by kernel_rfl
theorem Tryz.int99:intO prog 99=some .u32:=by kernel_rfl
theorem Tryz.flat99:flatT prog 99=true:=by kernel_rfl
theorem Tryz.agg100:aggO prog 100=some true:=by kernel_rfl
theorem Tryz.sz100:szO prog 100=some 8:=by kernel_rfl
theorem Tryz.arr100:arrO prog 100=some (8,99):=by kernel_rfl
theorem Tryz.zero100:zeroO prog 100=some (.agg #[.int .u32 0,.int .u32 0,.int .u32 0,.int .u32 0,.int .u32 0,.int .u32 0,.int .u32 0,.int .u32 0]):=by kernel_rfl
theorem Tryz.places100:qJl prog 100=none:=by kernel_rfl
theorem Tryz.agg101:aggO prog 101=some true:=by kernel_rfl
theorem Tryz.sz101:szO prog 101=some 64:=by kernel_rfl
theorem Tryz.arr101:arrO prog 101=some (64,99):=by kernel_rfl
theorem Tryz.zero101:zeroO prog 101=some (.agg (xR 64 (.int .u32 0))):=by kernel_rfl
theorem Tryz.int104:intO prog 104=some .u64:=by kernel_rfl
theorem Tryz.flat104:flatT prog 104=true:=by kernel_rfl
theorem Tryz.agg111:aggO prog 111=some true:=by kernel_rfl
theorem Tryz.sz111:szO prog 111=some 2:=by kernel_rfl
theorem Tryz.zero111:zeroO prog 111=some (.agg #[.slice none 0 0,.map none]):=by kernel_rfl
theorem Tryz.agg115:aggO prog 115=some false:=by kernel_rfl
theorem Tryz.map118:mapO prog 118=some (34,91):=by kernel_rfl
theorem Tryz.agg122:aggO prog 122=some true:=by kernel_rfl
theorem Tryz.sz122:szO prog 122=some 35:=by kernel_rfl
theorem Tryz.zero122:zeroO prog 122=some (.agg (#[.bool false,.slice none 0 0]++xR 32 (.int .u8 0)++#[.slice none 0 0])):=by kernel_rfl
theorem Tryz.agg138:aggO prog 138=some false:=by kernel_rfl
theorem Tryz.sz138:szO prog 138=some 1:=by kernel_rfl
theorem Tryz.arr138:arrO prog 138=none:=by kernel_rfl
theorem Tryz.slc138:slcO prog 138=some 220:=by kernel_rfl
theorem Tryz.map138:mapO prog 138=none:=by kernel_rfl
theorem Tryz.agg139:aggO prog 139=some false:=by kernel_rfl
theorem Tryz.sz139:szO prog 139=some 1:=by kernel_rfl
theorem Tryz.arr139:arrO prog 139=none:=by kernel_rfl
theorem Tryz.slc139:slcO prog 139=some 267:=by kernel_rfl
theorem Tryz.map139:mapO prog 139=none:=by kernel_rfl
theorem Tryz.arr143:arrO prog 143=none:=by kernel_rfl
theorem Tryz.slc143:slcO prog 143=some 149:=by kernel_rfl
theorem Tryz.map143:mapO prog 143=none:=by kernel_rfl
theorem Tryz.agg149:aggO prog 149=some true:=by kernel_rfl
theorem Tryz.sz149:szO prog 149=some 35:=by kernel_rfl
theorem Tryz.zero149:zeroO prog 149=some (.agg (xR 32 (.int .u8 0)++#[.bool false,.slice none 0 0,.slice none 0 0])):=by kernel_rfl
theorem Tryz.places149:qJl prog 149=some [(0,32),(32,2),(34,1)]:=by kernel_rfl
theorem Tryz.arr151:arrO prog 151=none:=by kernel_rfl
theorem Tryz.slc151:slcO prog 151=some 181:=by kernel_rfl
theorem Tryz.map151:mapO prog 151=none:=by kernel_rfl
theorem Tryz.agg157:aggO prog 157=some true:=by kernel_rfl
theorem Tryz.sz157:szO prog 157=some 3:=by kernel_rfl
theorem Tryz.zero157:zeroO prog 157=some (.agg #[.bool false,.slice none 0 0,.slice none 0 0]):=by kernel_rfl
theorem Tryz.sz164:szO prog 164=some 1:=by kernel_rfl
theorem Tryz.agg168:aggO prog 168=some false:=by kernel_rfl
theorem Tryz.sz168:szO prog 168=some 1:=by kernel_rfl
theorem Tryz.int168:intO prog 168=some .u64:=by kernel_rfl
theorem Tryz.flat168:flatT prog 168=true:=by kernel_rfl
theorem Tryz.agg181:aggO prog 181=some true:=by kernel_rfl
theorem Tryz.sz181:szO prog 181=some 34:=by kernel_rfl
theorem Tryz.zero181:zeroO prog 181=some (.agg (xR 32 (.int .u8 0)++#[.bool false,.slice none 0 0])):=by kernel_rfl
theorem Tryz.agg189:aggO prog 189=some false:=by kernel_rfl
theorem Tryz.sz189:szO prog 189=some 1:=by kernel_rfl
theorem Tryz.arr189:arrO prog 189=none:=by kernel_rfl
theorem Tryz.slc189:slcO prog 189=some 196:=by kernel_rfl
theorem Tryz.map189:mapO prog 189=none:=by kernel_rfl
theorem Tryz.agg194:aggO prog 194=some false:=by kernel_rfl
theorem Tryz.agg196:aggO prog 196=some true:=by kernel_rfl
theorem Tryz.sz196:szO prog 196=some 2:=by kernel_rfl
theorem Tryz.zero196:zeroO prog 196=some (.agg #[.int .i64 0,.pointer none]):=by kernel_rfl
theorem Tryz.zero200:zeroO prog 200=some (.agg (#[.int .i64 0]++xR 32 (.int .u8 0)++#[.slice none 0 0]++xR 32 (.int .u8 0)++#[.bool false,.slice none 0 0]++xR 32 (.int .u8 0)++#[.slice none 0 0]++xR 32 (.int .u8 0)++#[.slice none 0 0])):=by kernel_rfl
theorem Tryz.places200:qJl prog 200=some [(0,1),(1,32),(33,1),(34,32),(66,35),(101,32),(133,1)]:=by kernel_rfl
theorem Tryz.agg212:aggO prog 212=some true:=by kernel_rfl
theorem Tryz.sz212:szO prog 212=some 35:=by kernel_rfl
theorem Tryz.zero212:zeroO prog 212=some (.agg (#[.slice none 0 0,.slice none 0 0,.slice none 0 0]++xR 32 (.int .u8 0))):=by kernel_rfl
theorem Tryz.places212:qJl prog 212=some [(0,1),(1,1),(2,1),(3,32)]:=by kernel_rfl
theorem Tryz.agg220:aggO prog 220=some true:=by kernel_rfl
theorem Tryz.sz220:szO prog 220=some 8:=by kernel_rfl
theorem Tryz.zero220:zeroO prog 220=some (.agg #[.slice none 0 0,.int .i64 0,.int .i64 0,.slice none 0 0,.int .i64 0,.int .i64 0,.bool false,.slice none 0 0]):=by kernel_rfl
theorem Tryz.places220:qJl prog 220=some [(0,1),(1,1),(2,1),(3,1),(4,1),(5,1),(6,1),(7,1)]:=by kernel_rfl
theorem Tryz.arr243:arrO prog 243=none:=by kernel_rfl
theorem Tryz.slc243:slcO prog 243=some 164:=by kernel_rfl
theorem Tryz.map243:mapO prog 243=none:=by kernel_rfl
theorem Tryz.agg245:aggO prog 245=some false:=by kernel_rfl
theorem Tryz.sz245:szO prog 245=some 1:=by kernel_rfl
theorem Tryz.zero245:zeroO prog 245=some (.nilFunc):=by kernel_rfl
theorem Tryz.agg267:aggO prog 267=some true:=by kernel_rfl
theorem Tryz.sz267:szO prog 267=some 34:=by kernel_rfl
theorem Tryz.zero267:zeroO prog 267=some (.agg (#[.int .i64 0,.int .i64 0]++xR 32 (.int .u8 0))):=by kernel_rfl
theorem Tryz.places267:qJl prog 267=some [(0,1),(1,1),(2,32)]:=by kernel_rfl
theorem Tryz.arr284:arrO prog 284=none:=by kernel_rfl
theorem Tryz.slc284:slcO prog 284=some 245:=by kernel_rfl
theorem Tryz.map284:mapO prog 284=none:=by kernel_rfl
theorem Tryz.arr287:arrO prog 287=some (64,5):=by kernel_rfl
theorem Tryz.agg289:aggO prog 289=some true:=by kernel_rfl
theorem Tryz.sz289:szO prog 289=some 74:=by kernel_rfl
theorem Tryz.zero289:zeroO prog 289=some (.agg (#[.int .u32 0,.int .u32 0,.int .u32 0,.int .u32 0,.int .u32 0,.int .u32 0,.int .u32 0,.int .u32 0]++xR 64 (.int .u8 0)++#[.int .i64 0,.int .u64 0])):=by kernel_rfl
theorem Tryz.arr301:arrO prog 301=some (128,5):=by kernel_rfl
theorem Tryz.zero301:zeroO prog 301=some (.agg (xR 128 (.int .u8 0))):=by kernel_rfl
theorem Tryz.fld59_0:qQu prog 59 0=some (0,24):=by kernel_rfl
theorem Tryz.fld59_1:qQu prog 59 1=some (1,24):=by kernel_rfl
theorem Tryz.fld59_2:qQu prog 59 2=some (2,37):=by kernel_rfl
theorem Tryz.fld59_3:qQu prog 59 3=some (3,37):=by kernel_rfl
theorem Tryz.fld65_0:qQu prog 65 0=some (0,34):=by kernel_rfl
theorem Tryz.fld65_1:qQu prog 65 1=some (32,25):=by kernel_rfl
theorem Tryz.fld69_0:qQu prog 69 0=some (0,4):=by kernel_rfl
theorem Tryz.fld69_1:qQu prog 69 1=some (1,25):=by kernel_rfl
theorem Tryz.fld96_0:qQu prog 96 0=some (0,24):=by kernel_rfl
theorem Tryz.fld96_1:qQu prog 96 1=some (1,3):=by kernel_rfl
theorem Tryz.fld96_2:qQu prog 96 2=some (2,3):=by kernel_rfl
theorem Tryz.fld96_3:qQu prog 96 3=some (3,94):=by kernel_rfl
theorem Tryz.fld96_4:qQu prog 96 4=some (4,69):=by kernel_rfl
theorem Tryz.fld96_5:qQu prog 96 5=some (6,91):=by kernel_rfl
theorem Tryz.fld96_6:qQu prog 96 6=some (7,91):=by kernel_rfl
theorem Tryz.fld111_0:qQu prog 111 0=some (0,24):=by kernel_rfl
theorem Tryz.fld122_0:qQu prog 122 0=some (0,4):=by kernel_rfl
theorem Tryz.fld122_1:qQu prog 122 1=some (1,25):=by kernel_rfl
theorem Tryz.fld122_2:qQu prog 122 2=some (2,22):=by kernel_rfl
theorem Tryz.fld122_3:qQu prog 122 3=some (34,94):=by kernel_rfl
theorem Tryz.fld141_0:qQu prog 141 0=some (0,3):=by kernel_rfl
theorem Tryz.fld141_1:qQu prog 141 1=some (1,94):=by kernel_rfl
theorem Tryz.fld141_2:qQu prog 141 2=some (2,138):=by kernel_rfl
theorem Tryz.fld141_3:qQu prog 141 3=some (3,139):=by kernel_rfl
theorem Tryz.fld141_4:qQu prog 141 4=some (4,25):=by kernel_rfl
theorem Tryz.fld141_5:qQu prog 141 5=some (5,3):=by kernel_rfl
theorem Tryz.fld141_6:qQu prog 141 6=some (6,4):=by kernel_rfl
theorem Tryz.fld149_0:qQu prog 149 0=some (0,34):=by kernel_rfl
theorem Tryz.fld149_1:qQu prog 149 1=some (32,69):=by kernel_rfl
theorem Tryz.fld149_2:qQu prog 149 2=some (34,94):=by kernel_rfl
theorem Tryz.fld157_0:qQu prog 157 0=some (0,4):=by kernel_rfl
theorem Tryz.fld157_1:qQu prog 157 1=some (1,25):=by kernel_rfl
theorem Tryz.fld157_2:qQu prog 157 2=some (2,94):=by kernel_rfl
theorem Tryz.fld181_0:qQu prog 181 0=some (0,34):=by kernel_rfl
theorem Tryz.fld181_1:qQu prog 181 1=some (32,4):=by kernel_rfl
theorem Tryz.fld181_2:qQu prog 181 2=some (33,25):=by kernel_rfl
theorem Tryz.fld191_0:qQu prog 191 0=some (0,25):=by kernel_rfl
theorem Tryz.fld191_1:qQu prog 191 1=some (1,94):=by kernel_rfl
theorem Tryz.fld191_2:qQu prog 191 2=some (2,189):=by kernel_rfl
theorem Tryz.fld196_0:qQu prog 196 0=some (0,3):=by kernel_rfl
theorem Tryz.fld196_1:qQu prog 196 1=some (1,194):=by kernel_rfl
theorem Tryz.fld200_0:qQu prog 200 0=some (0,3):=by kernel_rfl
theorem Tryz.fld200_1:qQu prog 200 1=some (1,34):=by kernel_rfl
theorem Tryz.fld200_2:qQu prog 200 2=some (33,25):=by kernel_rfl
theorem Tryz.fld200_3:qQu prog 200 3=some (34,23):=by kernel_rfl
theorem Tryz.fld200_4:qQu prog 200 4=some (66,122):=by kernel_rfl
theorem Tryz.fld200_5:qQu prog 200 5=some (101,23):=by kernel_rfl
theorem Tryz.fld200_6:qQu prog 200 6=some (133,94):=by kernel_rfl
theorem Tryz.fld203_0:qQu prog 203 0=some (0,25):=by kernel_rfl
theorem Tryz.fld203_1:qQu prog 203 1=some (1,4):=by kernel_rfl
theorem Tryz.fld212_0:qQu prog 212 0=some (0,25):=by kernel_rfl
theorem Tryz.fld212_1:qQu prog 212 1=some (1,25):=by kernel_rfl
theorem Tryz.fld212_2:qQu prog 212 2=some (2,25):=by kernel_rfl
theorem Tryz.fld212_3:qQu prog 212 3=some (3,22):=by kernel_rfl
theorem Tryz.fld220_0:qQu prog 220 0=some (0,24):=by kernel_rfl
theorem Tryz.fld220_1:qQu prog 220 1=some (1,3):=by kernel_rfl
theorem Tryz.fld220_2:qQu prog 220 2=some (2,3):=by kernel_rfl
theorem Tryz.fld220_3:qQu prog 220 3=some (3,94):=by kernel_rfl
theorem Tryz.fld220_4:qQu prog 220 4=some (4,3):=by kernel_rfl
theorem Tryz.fld220_5:qQu prog 220 5=some (5,3):=by kernel_rfl
theorem Tryz.fld220_6:qQu prog 220 6=some (6,4):=by kernel_rfl
theorem Tryz.fld220_7:qQu prog 220 7=some (7,25):=by kernel_rfl
theorem Tryz.fld267_0:qQu prog 267 0=some (0,3):=by kernel_rfl
theorem Tryz.fld267_1:qQu prog 267 1=some (1,3):=by kernel_rfl
theorem Tryz.fld267_2:qQu prog 267 2=some (2,23):=by kernel_rfl
theorem Tryz.fld289_0:qQu prog 289 0=some (0,100):=by kernel_rfl
theorem Tryz.fld289_1:qQu prog 289 1=some (8,287):=by kernel_rfl
theorem Tryz.fld289_2:qQu prog 289 2=some (72,3):=by kernel_rfl
theorem Tryz.fld289_3:qQu prog 289 3=some (73,168):=by kernel_rfl
theorem Tryz.cv3_5:cvP prog 3 5=true:=by kernel_rfl
theorem Tryz.cv3_104:cvP prog 3 104=true:=by kernel_rfl
theorem Tryz.cv3_168:cvP prog 3 168=true:=by kernel_rfl
theorem Tryz.cv5_3:cvP prog 5 3=true:=by kernel_rfl
theorem Tryz.cv5_99:cvP prog 5 99=true:=by kernel_rfl
theorem Tryz.cv25_25:cvP prog 25 25=false:=by kernel_rfl
theorem Tryz.cv99_5:cvP prog 99 5=true:=by kernel_rfl
theorem Tryz.cv168_5:cvP prog 168 5=true:=by kernel_rfl
theorem Tryz.app24_24:AppT prog #[24,24] 34 32 32 (.agg (xR 32 (.int .u8 0))):=⟨⟨24,24,rfl,rfl,by kernel_rfl,by kernel_rfl,by kernel_rfl⟩,by kernel_rfl,by kernel_rfl,by kernel_rfl,by kernel_rfl⟩
theorem Tryz.app25_25:AppT prog #[25,25] 5 1 1 (.int .u8 0):=⟨⟨25,25,rfl,rfl,by kernel_rfl,by kernel_rfl,by kernel_rfl⟩,by kernel_rfl,by kernel_rfl,by kernel_rfl,by kernel_rfl⟩
theorem Tryz.app37_37:AppT prog #[37,37] 25 1 24 (.slice none 0 0):=⟨⟨37,37,rfl,rfl,by kernel_rfl,by kernel_rfl,by kernel_rfl⟩,by kernel_rfl,by kernel_rfl,by kernel_rfl,by kernel_rfl⟩
theorem Tryz.app47_47:AppT prog #[47,47] 69 2 32 (.agg #[.bool false,.slice none 0 0]):=⟨⟨47,47,rfl,rfl,by kernel_rfl,by kernel_rfl,by kernel_rfl⟩,by kernel_rfl,by kernel_rfl,by kernel_rfl,by kernel_rfl⟩
theorem Tryz.app66_66:AppT prog #[66,66] 65 33 56 (.agg (xR 32 (.int .u8 0)++#[.slice none 0 0])):=⟨⟨66,66,rfl,rfl,by kernel_rfl,by kernel_rfl,by kernel_rfl⟩,by kernel_rfl,by kernel_rfl,by kernel_rfl,by kernel_rfl⟩
theorem Tryz.app94_94:AppT prog #[94,94] 23 32 32 (.agg (xR 32 (.int .u8 0))):=⟨⟨94,94,rfl,rfl,by kernel_rfl,by kernel_rfl,by kernel_rfl⟩,by kernel_rfl,by kernel_rfl,by kernel_rfl,by kernel_rfl⟩
theorem Tryz.app138_138:AppT prog #[138,138] 220 8 112 (.agg #[.slice none 0 0,.int .i64 0,.int .i64 0,.slice none 0 0,.int .i64 0,.int .i64 0,.bool false,.slice none 0 0]):=⟨⟨138,138,rfl,rfl,by kernel_rfl,by kernel_rfl,by kernel_rfl⟩,by kernel_rfl,by kernel_rfl,by kernel_rfl,by kernel_rfl⟩
theorem Tryz.app139_139:AppT prog #[139,139] 267 34 48 (.agg (#[.int .i64 0,.int .i64 0]++xR 32 (.int .u8 0))):=⟨⟨139,139,rfl,rfl,by kernel_rfl,by kernel_rfl,by kernel_rfl⟩,by kernel_rfl,by kernel_rfl,by kernel_rfl,by kernel_rfl⟩
theorem Tryz.app143_143:AppT prog #[143,143] 149 35 88 (.agg (xR 32 (.int .u8 0)++#[.bool false,.slice none 0 0,.slice none 0 0])):=⟨⟨143,143,rfl,rfl,by kernel_rfl,by kernel_rfl,by kernel_rfl⟩,by kernel_rfl,by kernel_rfl,by kernel_rfl,by kernel_rfl⟩
theorem Tryz.app189_189:AppT prog #[189,189] 196 2 16 (.agg #[.int .i64 0,.pointer none]):=⟨⟨189,189,rfl,rfl,by kernel_rfl,by kernel_rfl,by kernel_rfl⟩,by kernel_rfl,by kernel_rfl,by kernel_rfl,by kernel_rfl⟩
theorem Tryz.by5:byO prog 5=some 1:=by kernel_rfl
theorem Tryz.by23:byO prog 23=some 32:=by kernel_rfl
theorem Tryz.by181:byO prog 181=some 64:=by kernel_rfl
theorem Tryz.eqg23:prog.eqGuardType prog.depth 23=false:=by kernel_rfl
theorem Tryz.eqg34:prog.eqGuardType prog.depth 34=false:=by kernel_rfl
attribute [go_sem] Tryz.agg3 Tryz.sz3 Tryz.int3 Tryz.flat3 Tryz.bool3 Tryz.agg4 Tryz.sz4 Tryz.flat4 Tryz.bool4 Tryz.agg5 Tryz.sz5 Tryz.int5 Tryz.flat5 Tryz.bool5 Tryz.zero5 Tryz.str9 Tryz.agg22 Tryz.sz22 Tryz.arr22 Tryz.agg23 Tryz.sz23 Tryz.arr23 Tryz.flat23 Tryz.zero23 Tryz.agg24 Tryz.sz24 Tryz.arr24 Tryz.slc24 Tryz.str24 Tryz.map24 Tryz.flat24 Tryz.agg25 Tryz.sz25 Tryz.arr25 Tryz.slc25 Tryz.str25 Tryz.map25 Tryz.flat25 Tryz.zero25 Tryz.agg34 Tryz.sz34 Tryz.arr34 Tryz.flat34 Tryz.zero34 Tryz.agg37 Tryz.sz37 Tryz.arr37 Tryz.slc37 Tryz.map37 Tryz.arr47 Tryz.slc47 Tryz.map47 Tryz.flat48 Tryz.agg65 Tryz.sz65 Tryz.zero65 Tryz.places65 Tryz.arr66 Tryz.slc66 Tryz.map66 Tryz.agg69 Tryz.sz69 Tryz.zero69 Tryz.places69 Tryz.agg91 Tryz.sz91 Tryz.flat91 Tryz.ptr91 Tryz.zero91 Tryz.agg94 Tryz.sz94 Tryz.arr94 Tryz.slc94 Tryz.map94 Tryz.flat94 Tryz.zero94 Tryz.zero96 Tryz.places96 Tryz.agg99 Tryz.sz99 Tryz.int99 Tryz.flat99 Tryz.agg100 Tryz.sz100 Tryz.arr100 Tryz.zero100 Tryz.places100 Tryz.agg101 Tryz.sz101 Tryz.arr101 Tryz.zero101 Tryz.int104 Tryz.flat104 Tryz.agg111 Tryz.sz111 Tryz.zero111 Tryz.agg115 Tryz.map118 Tryz.agg122 Tryz.sz122 Tryz.zero122 Tryz.agg138 Tryz.sz138 Tryz.arr138 Tryz.slc138 Tryz.map138 Tryz.agg139 Tryz.sz139 Tryz.arr139 Tryz.slc139 Tryz.map139 Tryz.arr143 Tryz.slc143 Tryz.map143 Tryz.agg149 Tryz.sz149 Tryz.zero149 Tryz.places149 Tryz.arr151 Tryz.slc151 Tryz.map151 Tryz.agg157 Tryz.sz157 Tryz.zero157 Tryz.sz164 Tryz.agg168 Tryz.sz168 Tryz.int168 Tryz.flat168 Tryz.agg181 Tryz.sz181 Tryz.zero181 Tryz.agg189 Tryz.sz189 Tryz.arr189 Tryz.slc189 Tryz.map189 Tryz.agg194 Tryz.agg196 Tryz.sz196 Tryz.zero196 Tryz.zero200 Tryz.places200 Tryz.agg212 Tryz.sz212 Tryz.zero212 Tryz.places212 Tryz.agg220 Tryz.sz220 Tryz.zero220 Tryz.places220 Tryz.arr243 Tryz.slc243 Tryz.map243 Tryz.agg245 Tryz.sz245 Tryz.zero245 Tryz.agg267 Tryz.sz267 Tryz.zero267 Tryz.places267 Tryz.arr284 Tryz.slc284 Tryz.map284 Tryz.arr287 Tryz.agg289 Tryz.sz289 Tryz.zero289 Tryz.arr301 Tryz.zero301 Tryz.fld59_0 Tryz.fld59_1 Tryz.fld59_2 Tryz.fld59_3 Tryz.fld65_0 Tryz.fld65_1 Tryz.fld69_0 Tryz.fld69_1 Tryz.fld96_0 Tryz.fld96_1 Tryz.fld96_2 Tryz.fld96_3 Tryz.fld96_4 Tryz.fld96_5 Tryz.fld96_6 Tryz.fld111_0 Tryz.fld122_0 Tryz.fld122_1 Tryz.fld122_2 Tryz.fld122_3 Tryz.fld141_0 Tryz.fld141_1 Tryz.fld141_2 Tryz.fld141_3 Tryz.fld141_4 Tryz.fld141_5 Tryz.fld141_6 Tryz.fld149_0 Tryz.fld149_1 Tryz.fld149_2 Tryz.fld157_0 Tryz.fld157_1 Tryz.fld157_2 Tryz.fld181_0 Tryz.fld181_1 Tryz.fld181_2 Tryz.fld191_0 Tryz.fld191_1 Tryz.fld191_2 Tryz.fld196_0 Tryz.fld196_1 Tryz.fld200_0 Tryz.fld200_1 Tryz.fld200_2 Tryz.fld200_3 Tryz.fld200_4 Tryz.fld200_5 Tryz.fld200_6 Tryz.fld203_0 Tryz.fld203_1 Tryz.fld212_0 Tryz.fld212_1 Tryz.fld212_2 Tryz.fld212_3 Tryz.fld220_0 Tryz.fld220_1 Tryz.fld220_2 Tryz.fld220_3 Tryz.fld220_4 Tryz.fld220_5 Tryz.fld220_6 Tryz.fld220_7 Tryz.fld267_0 Tryz.fld267_1 Tryz.fld267_2 Tryz.fld289_0 Tryz.fld289_1 Tryz.fld289_2 Tryz.fld289_3 Tryz.cv3_5 Tryz.cv3_104 Tryz.cv3_168 Tryz.cv5_3 Tryz.cv5_99 Tryz.cv25_25 Tryz.cv99_5 Tryz.cv168_5 Tryz.eqg23 Tryz.eqg34
abbrev GoT (n:Nat)(f:FuncId)(fn:Func)(bad:List Nat):Prop:=∀ {args:Array Value} {w:World} {K:Value→World→Prop}, args.size≤n→DenF prog fn bad args w K→Fn prog f args w K
theorem goT {n:Nat}{f:FuncId}{fn:Func}{bad:List Nat}(hf:prog.funcs[f]?=some fn)(h:(fn.body.isSome && codeOk prog fn.ntmps bad (bodyOf fn))=true)(hn:fn.ntmps=n):GoT n f fn bad :=
 fun {_ _ _} hargs=>fn_of_denF bad hf (Bool.and_eq_true_iff.1 h).1 (Bool.and_eq_true_iff.1 h).2 hn hargs
theorem Tryz.go5:GoT 62 5 Tryz.f5 []:=goT Tryz.func5 (by kernel_rfl) Tryz.ntmps5
theorem Tryz.pl10:qQe prog 10=true:=by kernel_rfl
theorem Tryz.go10:GoT 57 10 Tryz.f10 []:=goT Tryz.func10 (by kernel_rfl) Tryz.ntmps10
theorem Tryz.pl11:qQe prog 11=true:=by kernel_rfl
theorem Tryz.go11:GoT 129 11 Tryz.f11 []:=goT Tryz.func11 (by kernel_rfl) Tryz.ntmps11
theorem Tryz.pl13:qQe prog 13=true:=by kernel_rfl
theorem Tryz.go13:GoT 26 13 Tryz.f13 []:=goT Tryz.func13 (by kernel_rfl) Tryz.ntmps13
theorem Tryz.pl14:qQe prog 14=true:=by kernel_rfl
theorem Tryz.go14:GoT 31 14 Tryz.f14 []:=goT Tryz.func14 (by kernel_rfl) Tryz.ntmps14
theorem Tryz.pl17:qQe prog 17=true:=by kernel_rfl
theorem Tryz.go17:GoT 102 17 Tryz.f17 []:=goT Tryz.func17 (by kernel_rfl) Tryz.ntmps17
theorem Tryz.pl22:qQe prog 22=true:=by kernel_rfl
theorem Tryz.go22:GoT 7 22 Tryz.f22 []:=goT Tryz.func22 (by kernel_rfl) Tryz.ntmps22
theorem Tryz.pl23:qQe prog 23=true:=by kernel_rfl
theorem Tryz.go23:GoT 53 23 Tryz.f23 []:=goT Tryz.func23 (by kernel_rfl) Tryz.ntmps23
theorem Tryz.pl26:qQe prog 26=true:=by kernel_rfl
theorem Tryz.go26:GoT 26 26 Tryz.f26 []:=goT Tryz.func26 (by kernel_rfl) Tryz.ntmps26
theorem Tryz.pl27:qQe prog 27=true:=by kernel_rfl
theorem Tryz.go27:GoT 42 27 Tryz.f27 []:=goT Tryz.func27 (by kernel_rfl) Tryz.ntmps27
theorem Tryz.pl29:qQe prog 29=true:=by kernel_rfl
theorem Tryz.go29:GoT 29 29 Tryz.f29 []:=goT Tryz.func29 (by kernel_rfl) Tryz.ntmps29
theorem Tryz.pl30:qQe prog 30=true:=by kernel_rfl
theorem Tryz.go30:GoT 15 30 Tryz.f30 []:=goT Tryz.func30 (by kernel_rfl) Tryz.ntmps30
theorem Tryz.pl31:qQe prog 31=true:=by kernel_rfl
theorem Tryz.go31:GoT 12 31 Tryz.f31 []:=goT Tryz.func31 (by kernel_rfl) Tryz.ntmps31
theorem Tryz.pl32:qQe prog 32=true:=by kernel_rfl
theorem Tryz.go32:GoT 54 32 Tryz.f32 []:=goT Tryz.func32 (by kernel_rfl) Tryz.ntmps32
theorem Tryz.pl33:qQe prog 33=true:=by kernel_rfl
theorem Tryz.go33:GoT 40 33 Tryz.f33 []:=goT Tryz.func33 (by kernel_rfl) Tryz.ntmps33
theorem Tryz.pl34:qQe prog 34=true:=by kernel_rfl
theorem Tryz.go34:GoT 131 34 Tryz.f34 [10,24,31]:=goT Tryz.func34 (by kernel_rfl) Tryz.ntmps34
theorem Tryz.pl35:qQe prog 35=true:=by kernel_rfl
theorem Tryz.go35:GoT 20 35 Tryz.f35 []:=goT Tryz.func35 (by kernel_rfl) Tryz.ntmps35
theorem Tryz.pl37:qQe prog 37=true:=by kernel_rfl
theorem Tryz.go37:GoT 43 37 Tryz.f37 []:=goT Tryz.func37 (by kernel_rfl) Tryz.ntmps37
theorem Tryz.pl38:qQe prog 38=true:=by kernel_rfl
theorem Tryz.go38:GoT 24 38 Tryz.f38 []:=goT Tryz.func38 (by kernel_rfl) Tryz.ntmps38
theorem Tryz.pl39:qQe prog 39=true:=by kernel_rfl
theorem Tryz.go39:GoT 24 39 Tryz.f39 []:=goT Tryz.func39 (by kernel_rfl) Tryz.ntmps39
theorem Tryz.pl41:qQe prog 41=true:=by kernel_rfl
theorem Tryz.go41:GoT 170 41 Tryz.f41 [13,17]:=goT Tryz.func41 (by kernel_rfl) Tryz.ntmps41
theorem Tryz.pl45:qQe prog 45=true:=by kernel_rfl
theorem Tryz.go45:GoT 26 45 Tryz.f45 []:=goT Tryz.func45 (by kernel_rfl) Tryz.ntmps45
theorem Tryz.pl46:qQe prog 46=true:=by kernel_rfl
theorem Tryz.go46:GoT 38 46 Tryz.f46 []:=goT Tryz.func46 (by kernel_rfl) Tryz.ntmps46
theorem Tryz.pl47:qQe prog 47=true:=by kernel_rfl
theorem Tryz.go47:GoT 34 47 Tryz.f47 [2]:=goT Tryz.func47 (by kernel_rfl) Tryz.ntmps47
theorem Tryz.pl48:qQe prog 48=true:=by kernel_rfl
theorem Tryz.go48:GoT 27 48 Tryz.f48 []:=goT Tryz.func48 (by kernel_rfl) Tryz.ntmps48
theorem Tryz.pl51:qQe prog 51=true:=by kernel_rfl
theorem Tryz.go51:GoT 75 51 Tryz.f51 [1,8]:=goT Tryz.func51 (by kernel_rfl) Tryz.ntmps51
theorem Tryz.pl52:qQe prog 52=true:=by kernel_rfl
theorem Tryz.go52:GoT 38 52 Tryz.f52 []:=goT Tryz.func52 (by kernel_rfl) Tryz.ntmps52
theorem Tryz.pl53:qQe prog 53=true:=by kernel_rfl
theorem Tryz.go53:GoT 104 53 Tryz.f53 [10,11]:=goT Tryz.func53 (by kernel_rfl) Tryz.ntmps53
theorem Tryz.pl54:qQe prog 54=true:=by kernel_rfl
theorem Tryz.go54:GoT 119 54 Tryz.f54 [5,8]:=goT Tryz.func54 (by kernel_rfl) Tryz.ntmps54
theorem Tryz.pl57:qQe prog 57=true:=by kernel_rfl
theorem Tryz.go57:GoT 24 57 Tryz.f57 []:=goT Tryz.func57 (by kernel_rfl) Tryz.ntmps57
theorem Tryz.pl58:qQe prog 58=true:=by kernel_rfl
theorem Tryz.go58:GoT 67 58 Tryz.f58 [4]:=goT Tryz.func58 (by kernel_rfl) Tryz.ntmps58
theorem Tryz.pl59:qQe prog 59=true:=by kernel_rfl
theorem Tryz.go59:GoT 45 59 Tryz.f59 []:=goT Tryz.func59 (by kernel_rfl) Tryz.ntmps59
theorem Tryz.pl60:qQe prog 60=true:=by kernel_rfl
theorem Tryz.go60:GoT 12 60 Tryz.f60 []:=goT Tryz.func60 (by kernel_rfl) Tryz.ntmps60
theorem Tryz.pl62:qQe prog 62=true:=by kernel_rfl
theorem Tryz.go62:GoT 75 62 Tryz.f62 [12]:=goT Tryz.func62 (by kernel_rfl) Tryz.ntmps62
theorem Tryz.pl63:qQe prog 63=true:=by kernel_rfl
theorem Tryz.go63:GoT 9 63 Tryz.f63 []:=goT Tryz.func63 (by kernel_rfl) Tryz.ntmps63
theorem Tryz.pl64:qQe prog 64=true:=by kernel_rfl
theorem Tryz.go64:GoT 26 64 Tryz.f64 []:=goT Tryz.func64 (by kernel_rfl) Tryz.ntmps64
theorem Tryz.pl65:qQe prog 65=true:=by kernel_rfl
theorem Tryz.go65:GoT 36 65 Tryz.f65 [4]:=goT Tryz.func65 (by kernel_rfl) Tryz.ntmps65
theorem Tryz.pl66:qQe prog 66=true:=by kernel_rfl
theorem Tryz.go66:GoT 51 66 Tryz.f66 [11]:=goT Tryz.func66 (by kernel_rfl) Tryz.ntmps66
theorem Tryz.pl67:qQe prog 67=true:=by kernel_rfl
theorem Tryz.go67:GoT 79 67 Tryz.f67 []:=goT Tryz.func67 (by kernel_rfl) Tryz.ntmps67
theorem Tryz.pl68:qQe prog 68=true:=by kernel_rfl
theorem Tryz.go68:GoT 6 68 Tryz.f68 []:=goT Tryz.func68 (by kernel_rfl) Tryz.ntmps68
theorem Tryz.pl69:qQe prog 69=true:=by kernel_rfl
theorem Tryz.go69:GoT 12 69 Tryz.f69 []:=goT Tryz.func69 (by kernel_rfl) Tryz.ntmps69
theorem Tryz.pl70:qQe prog 70=true:=by kernel_rfl
theorem Tryz.go70:GoT 15 70 Tryz.f70 []:=goT Tryz.func70 (by kernel_rfl) Tryz.ntmps70
theorem Tryz.pl71:qQe prog 71=true:=by kernel_rfl
theorem Tryz.go71:GoT 95 71 Tryz.f71 [1]:=goT Tryz.func71 (by kernel_rfl) Tryz.ntmps71
theorem Tryz.pl72:qQe prog 72=true:=by kernel_rfl
theorem Tryz.go72:GoT 79 72 Tryz.f72 []:=goT Tryz.func72 (by kernel_rfl) Tryz.ntmps72
theorem Tryz.pl73:qQe prog 73=true:=by kernel_rfl
theorem Tryz.go73:GoT 32 73 Tryz.f73 [4]:=goT Tryz.func73 (by kernel_rfl) Tryz.ntmps73
theorem Tryz.pl75:qQe prog 75=true:=by kernel_rfl
theorem Tryz.go75:GoT 27 75 Tryz.f75 []:=goT Tryz.func75 (by kernel_rfl) Tryz.ntmps75
theorem Tryz.pl76:qQe prog 76=true:=by kernel_rfl
theorem Tryz.go76:GoT 30 76 Tryz.f76 []:=goT Tryz.func76 (by kernel_rfl) Tryz.ntmps76
theorem Tryz.pl77:qQe prog 77=true:=by kernel_rfl
theorem Tryz.go77:GoT 18 77 Tryz.f77 []:=goT Tryz.func77 (by kernel_rfl) Tryz.ntmps77
theorem Tryz.pl81:qQe prog 81=true:=by kernel_rfl
theorem Tryz.go81:GoT 39 81 Tryz.f81 []:=goT Tryz.func81 (by kernel_rfl) Tryz.ntmps81
theorem Tryz.pl82:qQe prog 82=true:=by kernel_rfl
theorem Tryz.go82:GoT 119 82 Tryz.f82 [27]:=goT Tryz.func82 (by kernel_rfl) Tryz.ntmps82
theorem Tryz.pl83:qQe prog 83=true:=by kernel_rfl
theorem Tryz.go83:GoT 79 83 Tryz.f83 [8]:=goT Tryz.func83 (by kernel_rfl) Tryz.ntmps83
theorem Tryz.pl85:qQe prog 85=true:=by kernel_rfl
theorem Tryz.go85:GoT 14 85 Tryz.f85 []:=goT Tryz.func85 (by kernel_rfl) Tryz.ntmps85
theorem Tryz.pl86:qQe prog 86=true:=by kernel_rfl
theorem Tryz.go86:GoT 9 86 Tryz.f86 []:=goT Tryz.func86 (by kernel_rfl) Tryz.ntmps86
theorem Tryz.pl87:qQe prog 87=true:=by kernel_rfl
theorem Tryz.go87:GoT 49 87 Tryz.f87 []:=goT Tryz.func87 (by kernel_rfl) Tryz.ntmps87
theorem Tryz.pl89:qQe prog 89=true:=by kernel_rfl
theorem Tryz.go89:GoT 8 89 Tryz.f89 []:=goT Tryz.func89 (by kernel_rfl) Tryz.ntmps89
theorem Tryz.pl90:qQe prog 90=true:=by kernel_rfl
theorem Tryz.pl91:qQe prog 91=true:=by kernel_rfl
theorem Tryz.go91:GoT 8 91 Tryz.f91 []:=goT Tryz.func91 (by kernel_rfl) Tryz.ntmps91
theorem Tryz.pl92:qQe prog 92=true:=by kernel_rfl
theorem Tryz.go92:GoT 21 92 Tryz.f92 []:=goT Tryz.func92 (by kernel_rfl) Tryz.ntmps92
theorem Tryz.pl93:qQe prog 93=true:=by kernel_rfl
theorem Tryz.go93:GoT 42 93 Tryz.f93 []:=goT Tryz.func93 (by kernel_rfl) Tryz.ntmps93
theorem Tryz.pl95:qQe prog 95=true:=by kernel_rfl
theorem Tryz.go95:GoT 13 95 Tryz.f95 []:=goT Tryz.func95 (by kernel_rfl) Tryz.ntmps95
theorem Tryz.pl99:qQe prog 99=true:=by kernel_rfl
theorem Tryz.go99:GoT 11 99 Tryz.f99 []:=goT Tryz.func99 (by kernel_rfl) Tryz.ntmps99
theorem Tryz.pl100:qQe prog 100=true:=by kernel_rfl
theorem Tryz.go100:GoT 15 100 Tryz.f100 []:=goT Tryz.func100 (by kernel_rfl) Tryz.ntmps100
theorem Tryz.pl101:qQe prog 101=true:=by kernel_rfl
theorem Tryz.go101:GoT 14 101 Tryz.f101 []:=goT Tryz.func101 (by kernel_rfl) Tryz.ntmps101
theorem Tryz.pl102:qQe prog 102=true:=by kernel_rfl
theorem Tryz.go102:GoT 51 102 Tryz.f102 []:=goT Tryz.func102 (by kernel_rfl) Tryz.ntmps102
theorem Tryz.pl103:qQe prog 103=true:=by kernel_rfl
theorem Tryz.go103:GoT 23 103 Tryz.f103 []:=goT Tryz.func103 (by kernel_rfl) Tryz.ntmps103
theorem Tryz.pl104:qQe prog 104=true:=by kernel_rfl
theorem Tryz.go104:GoT 62 104 Tryz.f104 []:=goT Tryz.func104 (by kernel_rfl) Tryz.ntmps104
theorem Tryz.pl105:qQe prog 105=true:=by kernel_rfl
theorem Tryz.go105:GoT 75 105 Tryz.f105 [4]:=goT Tryz.func105 (by kernel_rfl) Tryz.ntmps105
theorem Tryz.pl106:qQe prog 106=true:=by kernel_rfl
theorem Tryz.go106:GoT 20 106 Tryz.f106 []:=goT Tryz.func106 (by kernel_rfl) Tryz.ntmps106
theorem Tryz.pl107:qQe prog 107=true:=by kernel_rfl
theorem Tryz.go107:GoT 13 107 Tryz.f107 []:=goT Tryz.func107 (by kernel_rfl) Tryz.ntmps107
theorem Tryz.pl108:qQe prog 108=true:=by kernel_rfl
theorem Tryz.go108:GoT 20 108 Tryz.f108 []:=goT Tryz.func108 (by kernel_rfl) Tryz.ntmps108
theorem Tryz.pl109:qQe prog 109=true:=by kernel_rfl
theorem Tryz.go109:GoT 10 109 Tryz.f109 []:=goT Tryz.func109 (by kernel_rfl) Tryz.ntmps109
theorem Tryz.pl110:qQe prog 110=true:=by kernel_rfl
theorem Tryz.go110:GoT 14 110 Tryz.f110 []:=goT Tryz.func110 (by kernel_rfl) Tryz.ntmps110
theorem Tryz.pl111:qQe prog 111=true:=by kernel_rfl
theorem Tryz.go111:GoT 23 111 Tryz.f111 []:=goT Tryz.func111 (by kernel_rfl) Tryz.ntmps111
theorem Tryz.pl112:qQe prog 112=true:=by kernel_rfl
theorem Tryz.go112:GoT 108 112 Tryz.f112 []:=goT Tryz.func112 (by kernel_rfl) Tryz.ntmps112
theorem Tryz.pl113:qQe prog 113=true:=by kernel_rfl
theorem Tryz.go113:GoT 15 113 Tryz.f113 []:=goT Tryz.func113 (by kernel_rfl) Tryz.ntmps113
theorem Tryz.pl114:qQe prog 114=true:=by kernel_rfl
theorem Tryz.go114:GoT 19 114 Tryz.f114 []:=goT Tryz.func114 (by kernel_rfl) Tryz.ntmps114
theorem Tryz.pl115:qQe prog 115=true:=by kernel_rfl
theorem Tryz.go115:GoT 8 115 Tryz.f115 []:=goT Tryz.func115 (by kernel_rfl) Tryz.ntmps115
theorem Tryz.pl116:qQe prog 116=true:=by kernel_rfl
theorem Tryz.go116:GoT 41 116 Tryz.f116 []:=goT Tryz.func116 (by kernel_rfl) Tryz.ntmps116
theorem Tryz.pl117:qQe prog 117=true:=by kernel_rfl
theorem Tryz.go117:GoT 36 117 Tryz.f117 []:=goT Tryz.func117 (by kernel_rfl) Tryz.ntmps117
theorem Tryz.pl118:qQe prog 118=true:=by kernel_rfl
theorem Tryz.go118:GoT 16 118 Tryz.f118 []:=goT Tryz.func118 (by kernel_rfl) Tryz.ntmps118
theorem Tryz.pl119:qQe prog 119=true:=by kernel_rfl
theorem Tryz.go119:GoT 30 119 Tryz.f119 []:=goT Tryz.func119 (by kernel_rfl) Tryz.ntmps119
theorem Tryz.pl120:qQe prog 120=true:=by kernel_rfl
theorem Tryz.go120:GoT 8 120 Tryz.f120 []:=goT Tryz.func120 (by kernel_rfl) Tryz.ntmps120
theorem Tryz.pl121:qQe prog 121=true:=by kernel_rfl
theorem Tryz.go121:GoT 75 121 Tryz.f121 [4]:=goT Tryz.func121 (by kernel_rfl) Tryz.ntmps121
theorem Tryz.pl122:qQe prog 122=true:=by kernel_rfl
theorem Tryz.go122:GoT 24 122 Tryz.f122 []:=goT Tryz.func122 (by kernel_rfl) Tryz.ntmps122
theorem Tryz.pl123:qQe prog 123=true:=by kernel_rfl
theorem Tryz.go123:GoT 12 123 Tryz.f123 [1]:=goT Tryz.func123 (by kernel_rfl) Tryz.ntmps123
theorem Tryz.pl124:qQe prog 124=true:=by kernel_rfl
theorem Tryz.go124:GoT 13 124 Tryz.f124 []:=goT Tryz.func124 (by kernel_rfl) Tryz.ntmps124
theorem Tryz.pl125:qQe prog 125=true:=by kernel_rfl
theorem Tryz.go125:GoT 33 125 Tryz.f125 []:=goT Tryz.func125 (by kernel_rfl) Tryz.ntmps125
theorem Tryz.pl126:qQe prog 126=true:=by kernel_rfl
theorem Tryz.go126:GoT 57 126 Tryz.f126 []:=goT Tryz.func126 (by kernel_rfl) Tryz.ntmps126
theorem Tryz.pl127:qQe prog 127=true:=by kernel_rfl
theorem Tryz.go127:GoT 23 127 Tryz.f127 []:=goT Tryz.func127 (by kernel_rfl) Tryz.ntmps127
theorem Tryz.pl128:qQe prog 128=true:=by kernel_rfl
theorem Tryz.go128:GoT 24 128 Tryz.f128 []:=goT Tryz.func128 (by kernel_rfl) Tryz.ntmps128
theorem Tryz.pl129:qQe prog 129=true:=by kernel_rfl
theorem Tryz.go129:GoT 19 129 Tryz.f129 []:=goT Tryz.func129 (by kernel_rfl) Tryz.ntmps129
theorem Tryz.pl130:qQe prog 130=true:=by kernel_rfl
theorem Tryz.go130:GoT 80 130 Tryz.f130 []:=goT Tryz.func130 (by kernel_rfl) Tryz.ntmps130
theorem Tryz.pl131:qQe prog 131=true:=by kernel_rfl
theorem Tryz.go131:GoT 23 131 Tryz.f131 []:=goT Tryz.func131 (by kernel_rfl) Tryz.ntmps131
theorem Tryz.pl132:qQe prog 132=true:=by kernel_rfl
theorem Tryz.go132:GoT 19 132 Tryz.f132 []:=goT Tryz.func132 (by kernel_rfl) Tryz.ntmps132
theorem Tryz.pl133:qQe prog 133=true:=by kernel_rfl
theorem Tryz.go133:GoT 59 133 Tryz.f133 []:=goT Tryz.func133 (by kernel_rfl) Tryz.ntmps133
theorem Tryz.pl134:qQe prog 134=true:=by kernel_rfl
theorem Tryz.go134:GoT 19 134 Tryz.f134 []:=goT Tryz.func134 (by kernel_rfl) Tryz.ntmps134
theorem Tryz.pl135:qQe prog 135=true:=by kernel_rfl
theorem Tryz.go135:GoT 19 135 Tryz.f135 []:=goT Tryz.func135 (by kernel_rfl) Tryz.ntmps135
theorem Tryz.pl136:qQe prog 136=true:=by kernel_rfl
theorem Tryz.go136:GoT 17 136 Tryz.f136 []:=goT Tryz.func136 (by kernel_rfl) Tryz.ntmps136
theorem Tryz.pl137:qQe prog 137=true:=by kernel_rfl
theorem Tryz.go137:GoT 26 137 Tryz.f137 []:=goT Tryz.func137 (by kernel_rfl) Tryz.ntmps137
theorem Tryz.pl140:qQe prog 140=true:=by kernel_rfl
theorem Tryz.go140:GoT 74 140 Tryz.f140 []:=goT Tryz.func140 (by kernel_rfl) Tryz.ntmps140
theorem Tryz.pl141:qQe prog 141=true:=by kernel_rfl
theorem Tryz.go141:GoT 16 141 Tryz.f141 []:=goT Tryz.func141 (by kernel_rfl) Tryz.ntmps141
theorem Tryz.pl142:qQe prog 142=true:=by kernel_rfl
theorem Tryz.go142:GoT 43 142 Tryz.f142 [5]:=goT Tryz.func142 (by kernel_rfl) Tryz.ntmps142
theorem Tryz.pl143:qQe prog 143=true:=by kernel_rfl
theorem Tryz.go143:GoT 21 143 Tryz.f143 [3,4]:=goT Tryz.func143 (by kernel_rfl) Tryz.ntmps143
theorem Tryz.pl144:qQe prog 144=true:=by kernel_rfl
theorem Tryz.go144:GoT 37 144 Tryz.f144 []:=goT Tryz.func144 (by kernel_rfl) Tryz.ntmps144
theorem Tryz.pl145:qQe prog 145=true:=by kernel_rfl
theorem Tryz.go145:GoT 33 145 Tryz.f145 []:=goT Tryz.func145 (by kernel_rfl) Tryz.ntmps145
theorem Tryz.pl148:qQe prog 148=true:=by kernel_rfl
theorem Tryz.pl149:qQe prog 149=true:=by kernel_rfl
theorem Tryz.go149:GoT 18 149 Tryz.f149 []:=goT Tryz.func149 (by kernel_rfl) Tryz.ntmps149
theorem Tryz.pl150:qQe prog 150=true:=by kernel_rfl
theorem Tryz.go150:GoT 15 150 Tryz.f150 []:=goT Tryz.func150 (by kernel_rfl) Tryz.ntmps150
theorem Tryz.pl151:qQe prog 151=true:=by kernel_rfl
theorem Tryz.go151:GoT 16 151 Tryz.f151 []:=goT Tryz.func151 (by kernel_rfl) Tryz.ntmps151
theorem Tryz.pl152:qQe prog 152=true:=by kernel_rfl
theorem Tryz.go152:GoT 46 152 Tryz.f152 [14]:=goT Tryz.func152 (by kernel_rfl) Tryz.ntmps152
theorem Tryz.pl153:qQe prog 153=true:=by kernel_rfl
theorem Tryz.go153:GoT 19 153 Tryz.f153 []:=goT Tryz.func153 (by kernel_rfl) Tryz.ntmps153
theorem Tryz.pl154:qQe prog 154=true:=by kernel_rfl
theorem Tryz.go154:GoT 17 154 Tryz.f154 []:=goT Tryz.func154 (by kernel_rfl) Tryz.ntmps154
theorem Tryz.pl155:qQe prog 155=true:=by kernel_rfl
theorem Tryz.go155:GoT 58 155 Tryz.f155 [10]:=goT Tryz.func155 (by kernel_rfl) Tryz.ntmps155
theorem Tryz.pl156:qQe prog 156=true:=by kernel_rfl
theorem Tryz.go156:GoT 27 156 Tryz.f156 []:=goT Tryz.func156 (by kernel_rfl) Tryz.ntmps156
theorem Tryz.pl158:qQe prog 158=true:=by kernel_rfl
theorem Tryz.go158:GoT 19 158 Tryz.f158 [2,3]:=goT Tryz.func158 (by kernel_rfl) Tryz.ntmps158
theorem Tryz.pl159:qQe prog 159=true:=by kernel_rfl
theorem Tryz.go159:GoT 24 159 Tryz.f159 []:=goT Tryz.func159 (by kernel_rfl) Tryz.ntmps159
theorem Tryz.pl160:qQe prog 160=true:=by kernel_rfl
theorem Tryz.go160:GoT 28 160 Tryz.f160 []:=goT Tryz.func160 (by kernel_rfl) Tryz.ntmps160
theorem Tryz.pl162:qQe prog 162=true:=by kernel_rfl
theorem Tryz.go162:GoT 25 162 Tryz.f162 []:=goT Tryz.func162 (by kernel_rfl) Tryz.ntmps162
theorem Tryz.pl163:qQe prog 163=true:=by kernel_rfl
theorem Tryz.go163:GoT 16 163 Tryz.f163 []:=goT Tryz.func163 (by kernel_rfl) Tryz.ntmps163
theorem Tryz.pl164:qQe prog 164=true:=by kernel_rfl
theorem Tryz.go164:GoT 16 164 Tryz.f164 []:=goT Tryz.func164 (by kernel_rfl) Tryz.ntmps164
theorem Tryz.pl165:qQe prog 165=true:=by kernel_rfl
theorem Tryz.go165:GoT 22 165 Tryz.f165 []:=goT Tryz.func165 (by kernel_rfl) Tryz.ntmps165
theorem Tryz.pl166:qQe prog 166=true:=by kernel_rfl
theorem Tryz.go166:GoT 28 166 Tryz.f166 []:=goT Tryz.func166 (by kernel_rfl) Tryz.ntmps166
theorem Tryz.pl168:qQe prog 168=true:=by kernel_rfl
theorem Tryz.go168:GoT 30 168 Tryz.f168 []:=goT Tryz.func168 (by kernel_rfl) Tryz.ntmps168
theorem Tryz.pl169:qQe prog 169=true:=by kernel_rfl
theorem Tryz.go169:GoT 9 169 Tryz.f169 []:=goT Tryz.func169 (by kernel_rfl) Tryz.ntmps169
theorem Tryz.pl170:qQe prog 170=true:=by kernel_rfl
theorem Tryz.go170:GoT 12 170 Tryz.f170 []:=goT Tryz.func170 (by kernel_rfl) Tryz.ntmps170
theorem Tryz.pl171:qQe prog 171=true:=by kernel_rfl
theorem Tryz.go171:GoT 30 171 Tryz.f171 []:=goT Tryz.func171 (by kernel_rfl) Tryz.ntmps171
theorem Tryz.pl172:qQe prog 172=true:=by kernel_rfl
theorem Tryz.go172:GoT 44 172 Tryz.f172 []:=goT Tryz.func172 (by kernel_rfl) Tryz.ntmps172
theorem Tryz.pl173:qQe prog 173=true:=by kernel_rfl
theorem Tryz.go173:GoT 107 173 Tryz.f173 [12,13]:=goT Tryz.func173 (by kernel_rfl) Tryz.ntmps173
theorem Tryz.pl174:qQe prog 174=true:=by kernel_rfl
theorem Tryz.go174:GoT 18 174 Tryz.f174 []:=goT Tryz.func174 (by kernel_rfl) Tryz.ntmps174
theorem Tryz.pl175:qQe prog 175=true:=by kernel_rfl
theorem Tryz.go175:GoT 6 175 Tryz.f175 []:=goT Tryz.func175 (by kernel_rfl) Tryz.ntmps175
theorem Tryz.pl176:qQe prog 176=true:=by kernel_rfl
theorem Tryz.go176:GoT 36 176 Tryz.f176 []:=goT Tryz.func176 (by kernel_rfl) Tryz.ntmps176
theorem Tryz.pl177:qQe prog 177=true:=by kernel_rfl
theorem Tryz.go177:GoT 35 177 Tryz.f177 []:=goT Tryz.func177 (by kernel_rfl) Tryz.ntmps177
theorem Tryz.pl178:qQe prog 178=true:=by kernel_rfl
theorem Tryz.go178:GoT 91 178 Tryz.f178 [4]:=goT Tryz.func178 (by kernel_rfl) Tryz.ntmps178
theorem Tryz.pl179:qQe prog 179=true:=by kernel_rfl
theorem Tryz.go179:GoT 44 179 Tryz.f179 []:=goT Tryz.func179 (by kernel_rfl) Tryz.ntmps179
theorem Tryz.pl180:qQe prog 180=true:=by kernel_rfl
theorem Tryz.go180:GoT 199 180 Tryz.f180 [21,31,37]:=goT Tryz.func180 (by kernel_rfl) Tryz.ntmps180
theorem Tryz.pl181:qQe prog 181=true:=by kernel_rfl
theorem Tryz.go181:GoT 63 181 Tryz.f181 []:=goT Tryz.func181 (by kernel_rfl) Tryz.ntmps181
theorem Tryz.pl182:qQe prog 182=true:=by kernel_rfl
theorem Tryz.go182:GoT 37 182 Tryz.f182 []:=goT Tryz.func182 (by kernel_rfl) Tryz.ntmps182
theorem Tryz.pl187:qQe prog 187=true:=by kernel_rfl
theorem Tryz.go187:GoT 15 187 Tryz.f187 []:=goT Tryz.func187 (by kernel_rfl) Tryz.ntmps187
theorem Tryz.pl188:qQe prog 188=true:=by kernel_rfl
theorem Tryz.go188:GoT 23 188 Tryz.f188 []:=goT Tryz.func188 (by kernel_rfl) Tryz.ntmps188
theorem Tryz.pl200:qQe prog 200=true:=by kernel_rfl
theorem Tryz.go200:GoT 17 200 Tryz.f200 []:=goT Tryz.func200 (by kernel_rfl) Tryz.ntmps200
theorem Tryz.pl201:qQe prog 201=true:=by kernel_rfl
theorem Tryz.go201:GoT 51 201 Tryz.f201 []:=goT Tryz.func201 (by kernel_rfl) Tryz.ntmps201
theorem Tryz.pl202:qQe prog 202=true:=by kernel_rfl
theorem Tryz.go202:GoT 6 202 Tryz.f202 []:=goT Tryz.func202 (by kernel_rfl) Tryz.ntmps202
theorem Tryz.pl203:qQe prog 203=true:=by kernel_rfl
theorem Tryz.go203:GoT 6 203 Tryz.f203 []:=goT Tryz.func203 (by kernel_rfl) Tryz.ntmps203
theorem Tryz.pl204:qQe prog 204=true:=by kernel_rfl
theorem Tryz.go204:GoT 73 204 Tryz.f204 []:=goT Tryz.func204 (by kernel_rfl) Tryz.ntmps204
theorem Tryz.pl205:qQe prog 205=true:=by kernel_rfl
theorem Tryz.go205:GoT 76 205 Tryz.f205 []:=goT Tryz.func205 (by kernel_rfl) Tryz.ntmps205
theorem Tryz.pl206:qQe prog 206=true:=by kernel_rfl
theorem Tryz.go206:GoT 27 206 Tryz.f206 []:=goT Tryz.func206 (by kernel_rfl) Tryz.ntmps206
theorem Tryz.pl207:qQe prog 207=true:=by kernel_rfl
theorem Tryz.go207:GoT 22 207 Tryz.f207 []:=goT Tryz.func207 (by kernel_rfl) Tryz.ntmps207
theorem Tryz.pl208:qQe prog 208=true:=by kernel_rfl
theorem Tryz.go208:GoT 52 208 Tryz.f208 []:=goT Tryz.func208 (by kernel_rfl) Tryz.ntmps208
theorem Tryz.pl209:qQe prog 209=true:=by kernel_rfl
theorem Tryz.go209:GoT 67 209 Tryz.f209 []:=goT Tryz.func209 (by kernel_rfl) Tryz.ntmps209
theorem Tryz.pl210:qQe prog 210=true:=by kernel_rfl
theorem Tryz.go210:GoT 77 210 Tryz.f210 []:=goT Tryz.func210 (by kernel_rfl) Tryz.ntmps210
theorem Tryz.pl219:qQe prog 219=true:=by kernel_rfl
theorem Tryz.go219:GoT 6 219 Tryz.f219 []:=goT Tryz.func219 (by kernel_rfl) Tryz.ntmps219
theorem Tryz.pl220:qQe prog 220=true:=by kernel_rfl
theorem Tryz.go220:GoT 231 220 Tryz.f220 [17]:=goT Tryz.func220 (by kernel_rfl) Tryz.ntmps220
theorem Tryz.pl222:qQe prog 222=true:=by kernel_rfl
theorem Tryz.go222:GoT 17 222 Tryz.f222 []:=goT Tryz.func222 (by kernel_rfl) Tryz.ntmps222
end
end Go.V
