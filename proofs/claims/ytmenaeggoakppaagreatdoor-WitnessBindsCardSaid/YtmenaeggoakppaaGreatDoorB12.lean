/-
 Helpers: WTab.
-/
import Derived.Test.YtmenaeggoakppaaGreatDoorProg
import Derived.Test.YtmenaeggoakppaaGreatDoorB09
set_option linter.all false
section
namespace Go.V
open Go.Proofs
set_option maxRecDepth 100000
theorem Tryz.agg3:aggO Tryz.prog 3=some false:=by kernel_rfl
theorem Tryz.sz3:szO Tryz.prog 3=some 1:=by kernel_rfl
theorem Tryz.int3:intO Tryz.prog 3=some .i64:=by kernel_rfl
theorem Tryz.flat3:flatT Tryz.prog 3=true:=by kernel_rfl
theorem Tryz.bool3:boolT Tryz.prog 3=false:=by kernel_rfl
theorem Tryz.agg4:aggO Tryz.prog 4=some false:=by kernel_rfl
theorem Tryz.sz4:szO Tryz.prog 4=some 1:=by kernel_rfl
theorem Tryz.flat4:flatT Tryz.prog 4=true:=by kernel_rfl
theorem Tryz.bool4:boolT Tryz.prog 4=true:=by kernel_rfl
theorem Tryz.agg5:aggO Tryz.prog 5=some false:=by kernel_rfl
theorem Tryz.sz5:szO Tryz.prog 5=some 1:=by kernel_rfl
theorem Tryz.int5:intO Tryz.prog 5=some .u8:=by kernel_rfl
theorem Tryz.flat5:flatT Tryz.prog 5=true:=by kernel_rfl
theorem Tryz.bool5:boolT Tryz.prog 5=false:=by kernel_rfl
theorem Tryz.zero5:zeroO Tryz.prog 5=some (.int .u8 0):=by kernel_rfl
theorem Tryz.str9:strO Tryz.prog 9=true:=by kernel_rfl
theorem Tryz.flat9:flatT Tryz.prog 9=true:=by kernel_rfl
theorem Tryz.agg22:aggO Tryz.prog 22=some true:=by kernel_rfl
theorem Tryz.sz22:szO Tryz.prog 22=some 32:=by kernel_rfl
theorem Tryz.arr22:arrO Tryz.prog 22=some (32,5):=by kernel_rfl
theorem Tryz.agg23:aggO Tryz.prog 23=some true:=by kernel_rfl
theorem Tryz.sz23:szO Tryz.prog 23=some 32:=by kernel_rfl
theorem Tryz.arr23:arrO Tryz.prog 23=some (32,5):=by kernel_rfl
theorem Tryz.flat23:flatT Tryz.prog 23=false:=by kernel_rfl
theorem Tryz.zero23:zeroO Tryz.prog 23=some (.agg (Array.replicate 32 (.int .u8 0))):=by kernel_rfl
theorem Tryz.agg24:aggO Tryz.prog 24=some false:=by kernel_rfl
theorem Tryz.arr24:arrO Tryz.prog 24=none:=by kernel_rfl
theorem Tryz.slc24:slcO Tryz.prog 24=some 34:=by kernel_rfl
theorem Tryz.str24:strO Tryz.prog 24=false:=by kernel_rfl
theorem Tryz.map24:mapO Tryz.prog 24=none:=by kernel_rfl
theorem Tryz.flat24:flatT Tryz.prog 24=false:=by kernel_rfl
theorem Tryz.agg25:aggO Tryz.prog 25=some false:=by kernel_rfl
theorem Tryz.sz25:szO Tryz.prog 25=some 1:=by kernel_rfl
theorem Tryz.arr25:arrO Tryz.prog 25=none:=by kernel_rfl
theorem Tryz.slc25:slcO Tryz.prog 25=some 5:=by kernel_rfl
theorem Tryz.str25:strO Tryz.prog 25=false:=by kernel_rfl
theorem Tryz.map25:mapO Tryz.prog 25=none:=by kernel_rfl
theorem Tryz.flat25:flatT Tryz.prog 25=false:=by kernel_rfl
theorem Tryz.zero25:zeroO Tryz.prog 25=some (.slice none 0 0):=by kernel_rfl
theorem Tryz.agg34:aggO Tryz.prog 34=some true:=by kernel_rfl
theorem Tryz.sz34:szO Tryz.prog 34=some 32:=by kernel_rfl
theorem Tryz.arr34:arrO Tryz.prog 34=some (32,5):=by kernel_rfl
theorem Tryz.flat34:flatT Tryz.prog 34=false:=by kernel_rfl
theorem Tryz.zero34:zeroO Tryz.prog 34=some (.agg (Array.replicate 32 (.int .u8 0))):=by kernel_rfl
theorem Tryz.agg37:aggO Tryz.prog 37=some false:=by kernel_rfl
theorem Tryz.sz37:szO Tryz.prog 37=some 1:=by kernel_rfl
theorem Tryz.arr37:arrO Tryz.prog 37=none:=by kernel_rfl
theorem Tryz.slc37:slcO Tryz.prog 37=some 25:=by kernel_rfl
theorem Tryz.map37:mapO Tryz.prog 37=none:=by kernel_rfl
theorem Tryz.zero37:zeroO Tryz.prog 37=some (.slice none 0 0):=by kernel_rfl
theorem Tryz.arr47:arrO Tryz.prog 47=none:=by kernel_rfl
theorem Tryz.slc47:slcO Tryz.prog 47=some 69:=by kernel_rfl
theorem Tryz.map47:mapO Tryz.prog 47=none:=by kernel_rfl
theorem Tryz.flat48:flatT Tryz.prog 48=true:=by kernel_rfl
theorem Tryz.agg65:aggO Tryz.prog 65=some true:=by kernel_rfl
theorem Tryz.sz65:szO Tryz.prog 65=some 33:=by kernel_rfl
theorem Tryz.zero65:zeroO Tryz.prog 65=some (.agg (Array.replicate 32 (.int .u8 0)++#[.slice none 0 0])):=by kernel_rfl
theorem Tryz.places65:placesO Tryz.prog 65=some [(0,32),(32,1)]:=by kernel_rfl
theorem Tryz.arr66:arrO Tryz.prog 66=none:=by kernel_rfl
theorem Tryz.slc66:slcO Tryz.prog 66=some 65:=by kernel_rfl
theorem Tryz.map66:mapO Tryz.prog 66=none:=by kernel_rfl
theorem Tryz.agg69:aggO Tryz.prog 69=some true:=by kernel_rfl
theorem Tryz.sz69:szO Tryz.prog 69=some 2:=by kernel_rfl
theorem Tryz.zero69:zeroO Tryz.prog 69=some (.agg #[.bool false,.slice none 0 0]):=by kernel_rfl
theorem Tryz.places69:placesO Tryz.prog 69=some [(0,1),(1,1)]:=by kernel_rfl
theorem Tryz.agg91:aggO Tryz.prog 91=some false:=by kernel_rfl
theorem Tryz.sz91:szO Tryz.prog 91=some 1:=by kernel_rfl
theorem Tryz.flat91:flatT Tryz.prog 91=false:=by kernel_rfl
theorem Tryz.ptr91:ptrO Tryz.prog 91=some 8:=by kernel_rfl
theorem Tryz.agg94:aggO Tryz.prog 94=some false:=by kernel_rfl
theorem Tryz.sz94:szO Tryz.prog 94=some 1:=by kernel_rfl
theorem Tryz.arr94:arrO Tryz.prog 94=none:=by kernel_rfl
theorem Tryz.slc94:slcO Tryz.prog 94=some 23:=by kernel_rfl
theorem Tryz.map94:mapO Tryz.prog 94=none:=by kernel_rfl
theorem Tryz.flat94:flatT Tryz.prog 94=false:=by kernel_rfl
theorem Tryz.zero94:zeroO Tryz.prog 94=some (.slice none 0 0):=by kernel_rfl
theorem Tryz.zero96:zeroO Tryz.prog 96=some (.agg #[.slice none 0 0,.int .i64 0,.int .i64 0,.slice none 0 0,.bool false,.slice none 0 0,.pointer none,.pointer none]):=by kernel_rfl
theorem Tryz.places96:placesO Tryz.prog 96=some [(0,1),(1,1),(2,1),(3,1),(4,2),(6,1),(7,1)]:=by kernel_rfl
theorem Tryz.agg99:aggO Tryz.prog 99=some false:=by kernel_rfl
theorem Tryz.sz99:szO Tryz.prog 99=some 1:=by kernel_rfl
theorem Tryz.int99:intO Tryz.prog 99=some .u32:=by kernel_rfl
theorem Tryz.flat99:flatT Tryz.prog 99=true:=by kernel_rfl
theorem Tryz.agg100:aggO Tryz.prog 100=some true:=by kernel_rfl
theorem Tryz.sz100:szO Tryz.prog 100=some 8:=by kernel_rfl
theorem Tryz.arr100:arrO Tryz.prog 100=some (8,99):=by kernel_rfl
theorem Tryz.zero100:zeroO Tryz.prog 100=some (.agg #[.int .u32 0,.int .u32 0,.int .u32 0,.int .u32 0,.int .u32 0,.int .u32 0,.int .u32 0,.int .u32 0]):=by kernel_rfl
theorem Tryz.places100:placesO Tryz.prog 100=none:=by kernel_rfl
theorem Tryz.agg101:aggO Tryz.prog 101=some true:=by kernel_rfl
theorem Tryz.sz101:szO Tryz.prog 101=some 64:=by kernel_rfl
theorem Tryz.arr101:arrO Tryz.prog 101=some (64,99):=by kernel_rfl
theorem Tryz.zero101:zeroO Tryz.prog 101=some (.agg (Array.replicate 64 (.int .u32 0))):=by kernel_rfl
theorem Tryz.int104:intO Tryz.prog 104=some .u64:=by kernel_rfl
theorem Tryz.flat104:flatT Tryz.prog 104=true:=by kernel_rfl
theorem Tryz.agg111:aggO Tryz.prog 111=some true:=by kernel_rfl
theorem Tryz.sz111:szO Tryz.prog 111=some 2:=by kernel_rfl
theorem Tryz.zero111:zeroO Tryz.prog 111=some (.agg #[.slice none 0 0,.map none]):=by kernel_rfl
theorem Tryz.agg115:aggO Tryz.prog 115=some false:=by kernel_rfl
theorem Tryz.agg122:aggO Tryz.prog 122=some true:=by kernel_rfl
theorem Tryz.sz122:szO Tryz.prog 122=some 35:=by kernel_rfl
theorem Tryz.zero122:zeroO Tryz.prog 122=some (.agg (#[.bool false,.slice none 0 0]++Array.replicate 32 (.int .u8 0)++#[.slice none 0 0])):=by kernel_rfl
theorem Tryz.arr151:arrO Tryz.prog 151=none:=by kernel_rfl
theorem Tryz.slc151:slcO Tryz.prog 151=some 181:=by kernel_rfl
theorem Tryz.map151:mapO Tryz.prog 151=none:=by kernel_rfl
theorem Tryz.agg164:aggO Tryz.prog 164=some false:=by kernel_rfl
theorem Tryz.sz164:szO Tryz.prog 164=some 1:=by kernel_rfl
theorem Tryz.zero164:zeroO Tryz.prog 164=some (.pointer none):=by kernel_rfl
theorem Tryz.agg168:aggO Tryz.prog 168=some false:=by kernel_rfl
theorem Tryz.sz168:szO Tryz.prog 168=some 1:=by kernel_rfl
theorem Tryz.int168:intO Tryz.prog 168=some .u64:=by kernel_rfl
theorem Tryz.flat168:flatT Tryz.prog 168=true:=by kernel_rfl
theorem Tryz.sz181:szO Tryz.prog 181=some 34:=by kernel_rfl
theorem Tryz.zero181:zeroO Tryz.prog 181=some (.agg (Array.replicate 32 (.int .u8 0)++#[.bool false,.slice none 0 0])):=by kernel_rfl
theorem Tryz.agg189:aggO Tryz.prog 189=some false:=by kernel_rfl
theorem Tryz.sz189:szO Tryz.prog 189=some 1:=by kernel_rfl
theorem Tryz.arr189:arrO Tryz.prog 189=none:=by kernel_rfl
theorem Tryz.slc189:slcO Tryz.prog 189=some 196:=by kernel_rfl
theorem Tryz.map189:mapO Tryz.prog 189=none:=by kernel_rfl
theorem Tryz.agg194:aggO Tryz.prog 194=some false:=by kernel_rfl
theorem Tryz.agg196:aggO Tryz.prog 196=some true:=by kernel_rfl
theorem Tryz.sz196:szO Tryz.prog 196=some 2:=by kernel_rfl
theorem Tryz.zero196:zeroO Tryz.prog 196=some (.agg #[.int .i64 0,.pointer none]):=by kernel_rfl
theorem Tryz.zero200:zeroO Tryz.prog 200=some (.agg (#[.int .i64 0]++Array.replicate 32 (.int .u8 0)++#[.slice none 0 0]++Array.replicate 32 (.int .u8 0)++#[.bool false,.slice none 0 0]++Array.replicate 32 (.int .u8 0)++#[.slice none 0 0]++Array.replicate 32 (.int .u8 0)++#[.slice none 0 0])):=by kernel_rfl
theorem Tryz.places200:placesO Tryz.prog 200=some [(0,1),(1,32),(33,1),(34,32),(66,35),(101,32),(133,1)]:=by kernel_rfl
theorem Tryz.agg212:aggO Tryz.prog 212=some true:=by kernel_rfl
theorem Tryz.sz212:szO Tryz.prog 212=some 35:=by kernel_rfl
theorem Tryz.zero212:zeroO Tryz.prog 212=some (.agg (#[.slice none 0 0,.slice none 0 0,.slice none 0 0]++Array.replicate 32 (.int .u8 0))):=by kernel_rfl
theorem Tryz.places212:placesO Tryz.prog 212=some [(0,1),(1,1),(2,1),(3,32)]:=by kernel_rfl
theorem Tryz.arr243:arrO Tryz.prog 243=none:=by kernel_rfl
theorem Tryz.slc243:slcO Tryz.prog 243=some 164:=by kernel_rfl
theorem Tryz.map243:mapO Tryz.prog 243=none:=by kernel_rfl
theorem Tryz.agg245:aggO Tryz.prog 245=some false:=by kernel_rfl
theorem Tryz.sz245:szO Tryz.prog 245=some 1:=by kernel_rfl
theorem Tryz.zero245:zeroO Tryz.prog 245=some (.nilFunc):=by kernel_rfl
theorem Tryz.arr284:arrO Tryz.prog 284=none:=by kernel_rfl
theorem Tryz.slc284:slcO Tryz.prog 284=some 245:=by kernel_rfl
theorem Tryz.map284:mapO Tryz.prog 284=none:=by kernel_rfl
theorem Tryz.arr287:arrO Tryz.prog 287=some (64,5):=by kernel_rfl
theorem Tryz.agg289:aggO Tryz.prog 289=some true:=by kernel_rfl
theorem Tryz.sz289:szO Tryz.prog 289=some 74:=by kernel_rfl
theorem Tryz.zero289:zeroO Tryz.prog 289=some (.agg (#[.int .u32 0,.int .u32 0,.int .u32 0,.int .u32 0,.int .u32 0,.int .u32 0,.int .u32 0,.int .u32 0]++Array.replicate 64 (.int .u8 0)++#[.int .i64 0,.int .u64 0])):=by kernel_rfl
theorem Tryz.arr301:arrO Tryz.prog 301=some (128,5):=by kernel_rfl
theorem Tryz.zero301:zeroO Tryz.prog 301=some (.agg (Array.replicate 128 (.int .u8 0))):=by kernel_rfl
theorem Tryz.fld65_0:fieldO Tryz.prog 65 0=some (0,34):=by kernel_rfl
theorem Tryz.fld65_1:fieldO Tryz.prog 65 1=some (32,25):=by kernel_rfl
theorem Tryz.fld69_0:fieldO Tryz.prog 69 0=some (0,4):=by kernel_rfl
theorem Tryz.fld69_1:fieldO Tryz.prog 69 1=some (1,25):=by kernel_rfl
theorem Tryz.fld96_0:fieldO Tryz.prog 96 0=some (0,24):=by kernel_rfl
theorem Tryz.fld96_1:fieldO Tryz.prog 96 1=some (1,3):=by kernel_rfl
theorem Tryz.fld96_2:fieldO Tryz.prog 96 2=some (2,3):=by kernel_rfl
theorem Tryz.fld96_3:fieldO Tryz.prog 96 3=some (3,94):=by kernel_rfl
theorem Tryz.fld96_4:fieldO Tryz.prog 96 4=some (4,69):=by kernel_rfl
theorem Tryz.fld96_5:fieldO Tryz.prog 96 5=some (6,91):=by kernel_rfl
theorem Tryz.fld96_6:fieldO Tryz.prog 96 6=some (7,91):=by kernel_rfl
theorem Tryz.fld111_0:fieldO Tryz.prog 111 0=some (0,24):=by kernel_rfl
theorem Tryz.fld122_0:fieldO Tryz.prog 122 0=some (0,4):=by kernel_rfl
theorem Tryz.fld122_1:fieldO Tryz.prog 122 1=some (1,25):=by kernel_rfl
theorem Tryz.fld122_2:fieldO Tryz.prog 122 2=some (2,22):=by kernel_rfl
theorem Tryz.fld122_3:fieldO Tryz.prog 122 3=some (34,94):=by kernel_rfl
theorem Tryz.fld191_0:fieldO Tryz.prog 191 0=some (0,25):=by kernel_rfl
theorem Tryz.fld191_1:fieldO Tryz.prog 191 1=some (1,94):=by kernel_rfl
theorem Tryz.fld191_2:fieldO Tryz.prog 191 2=some (2,189):=by kernel_rfl
theorem Tryz.fld196_0:fieldO Tryz.prog 196 0=some (0,3):=by kernel_rfl
theorem Tryz.fld196_1:fieldO Tryz.prog 196 1=some (1,194):=by kernel_rfl
theorem Tryz.fld200_0:fieldO Tryz.prog 200 0=some (0,3):=by kernel_rfl
theorem Tryz.fld200_1:fieldO Tryz.prog 200 1=some (1,34):=by kernel_rfl
theorem Tryz.fld200_2:fieldO Tryz.prog 200 2=some (33,25):=by kernel_rfl
theorem Tryz.fld200_3:fieldO Tryz.prog 200 3=some (34,23):=by kernel_rfl
theorem Tryz.fld200_4:fieldO Tryz.prog 200 4=some (66,122):=by kernel_rfl
theorem Tryz.fld200_5:fieldO Tryz.prog 200 5=some (101,23):=by kernel_rfl
theorem Tryz.fld200_6:fieldO Tryz.prog 200 6=some (133,94):=by kernel_rfl
theorem Tryz.fld203_0:fieldO Tryz.prog 203 0=some (0,25):=by kernel_rfl
theorem Tryz.fld203_1:fieldO Tryz.prog 203 1=some (1,4):=by kernel_rfl
theorem Tryz.fld212_0:fieldO Tryz.prog 212 0=some (0,25):=by kernel_rfl
theorem Tryz.fld212_1:fieldO Tryz.prog 212 1=some (1,25):=by kernel_rfl
theorem Tryz.fld212_2:fieldO Tryz.prog 212 2=some (2,25):=by kernel_rfl
theorem Tryz.fld212_3:fieldO Tryz.prog 212 3=some (3,22):=by kernel_rfl
theorem Tryz.fld289_0:fieldO Tryz.prog 289 0=some (0,100):=by kernel_rfl
theorem Tryz.fld289_1:fieldO Tryz.prog 289 1=some (8,287):=by kernel_rfl
theorem Tryz.fld289_2:fieldO Tryz.prog 289 2=some (72,3):=by kernel_rfl
theorem Tryz.fld289_3:fieldO Tryz.prog 289 3=some (73,168):=by kernel_rfl
theorem Tryz.cv3_5:cvP Tryz.prog 3 5=true:=by kernel_rfl
theorem Tryz.cv3_104:cvP Tryz.prog 3 104=true:=by kernel_rfl
theorem Tryz.cv3_168:cvP Tryz.prog 3 168=true:=by kernel_rfl
theorem Tryz.cv5_3:cvP Tryz.prog 5 3=true:=by kernel_rfl
theorem Tryz.cv5_99:cvP Tryz.prog 5 99=true:=by kernel_rfl
theorem Tryz.cv25_9:cvP Tryz.prog 25 9=false:=by kernel_rfl
theorem Tryz.cv25_25:cvP Tryz.prog 25 25=false:=by kernel_rfl
theorem Tryz.cv99_5:cvP Tryz.prog 99 5=true:=by kernel_rfl
theorem Tryz.cv168_5:cvP Tryz.prog 168 5=true:=by kernel_rfl
theorem Tryz.app24_24:AppT Tryz.prog #[24,24] 34 32 32 (.agg (Array.replicate 32 (.int .u8 0))):=⟨⟨24,24,rfl,rfl,by kernel_rfl,by kernel_rfl,by kernel_rfl⟩,by kernel_rfl,by kernel_rfl,by kernel_rfl,by kernel_rfl⟩
theorem Tryz.app25_25:AppT Tryz.prog #[25,25] 5 1 1 (.int .u8 0):=⟨⟨25,25,rfl,rfl,by kernel_rfl,by kernel_rfl,by kernel_rfl⟩,by kernel_rfl,by kernel_rfl,by kernel_rfl,by kernel_rfl⟩
theorem Tryz.app37_37:AppT Tryz.prog #[37,37] 25 1 24 (.slice none 0 0):=⟨⟨37,37,rfl,rfl,by kernel_rfl,by kernel_rfl,by kernel_rfl⟩,by kernel_rfl,by kernel_rfl,by kernel_rfl,by kernel_rfl⟩
theorem Tryz.app47_47:AppT Tryz.prog #[47,47] 69 2 32 (.agg #[.bool false,.slice none 0 0]):=⟨⟨47,47,rfl,rfl,by kernel_rfl,by kernel_rfl,by kernel_rfl⟩,by kernel_rfl,by kernel_rfl,by kernel_rfl,by kernel_rfl⟩
theorem Tryz.app66_66:AppT Tryz.prog #[66,66] 65 33 56 (.agg (Array.replicate 32 (.int .u8 0)++#[.slice none 0 0])):=⟨⟨66,66,rfl,rfl,by kernel_rfl,by kernel_rfl,by kernel_rfl⟩,by kernel_rfl,by kernel_rfl,by kernel_rfl,by kernel_rfl⟩
theorem Tryz.app94_94:AppT Tryz.prog #[94,94] 23 32 32 (.agg (Array.replicate 32 (.int .u8 0))):=⟨⟨94,94,rfl,rfl,by kernel_rfl,by kernel_rfl,by kernel_rfl⟩,by kernel_rfl,by kernel_rfl,by kernel_rfl,by kernel_rfl⟩
theorem Tryz.app189_189:AppT Tryz.prog #[189,189] 196 2 16 (.agg #[.int .i64 0,.pointer none]):=⟨⟨189,189,rfl,rfl,by kernel_rfl,by kernel_rfl,by kernel_rfl⟩,by kernel_rfl,by kernel_rfl,by kernel_rfl,by kernel_rfl⟩
theorem Tryz.by5:byO Tryz.prog 5=some 1:=by kernel_rfl
theorem Tryz.by23:byO Tryz.prog 23=some 32:=by kernel_rfl
theorem Tryz.by181:byO Tryz.prog 181=some 64:=by kernel_rfl
theorem Tryz.eqg23:Tryz.prog.eqGuardType Tryz.prog.depth 23=false:=by kernel_rfl
theorem Tryz.eqg34:Tryz.prog.eqGuardType Tryz.prog.depth 34=false:=by kernel_rfl
attribute [go_sem] Tryz.agg3 Tryz.sz3 Tryz.int3 Tryz.flat3 Tryz.bool3 Tryz.agg4 Tryz.sz4 Tryz.flat4 Tryz.bool4 Tryz.agg5 Tryz.sz5 Tryz.int5 Tryz.flat5 Tryz.bool5 Tryz.zero5 Tryz.str9 Tryz.flat9 Tryz.agg22 Tryz.sz22 Tryz.arr22 Tryz.agg23 Tryz.sz23 Tryz.arr23 Tryz.flat23 Tryz.zero23 Tryz.agg24 Tryz.arr24 Tryz.slc24 Tryz.str24 Tryz.map24 Tryz.flat24 Tryz.agg25 Tryz.sz25 Tryz.arr25 Tryz.slc25 Tryz.str25 Tryz.map25 Tryz.flat25 Tryz.zero25 Tryz.agg34 Tryz.sz34 Tryz.arr34 Tryz.flat34 Tryz.zero34 Tryz.agg37 Tryz.sz37 Tryz.arr37 Tryz.slc37 Tryz.map37 Tryz.zero37 Tryz.arr47 Tryz.slc47 Tryz.map47 Tryz.flat48 Tryz.agg65 Tryz.sz65 Tryz.zero65 Tryz.places65 Tryz.arr66 Tryz.slc66 Tryz.map66 Tryz.agg69 Tryz.sz69 Tryz.zero69 Tryz.places69 Tryz.agg91 Tryz.sz91 Tryz.flat91 Tryz.ptr91 Tryz.agg94 Tryz.sz94 Tryz.arr94 Tryz.slc94 Tryz.map94 Tryz.flat94 Tryz.zero94 Tryz.zero96 Tryz.places96 Tryz.agg99 Tryz.sz99 Tryz.int99 Tryz.flat99 Tryz.agg100 Tryz.sz100 Tryz.arr100 Tryz.zero100 Tryz.places100 Tryz.agg101 Tryz.sz101 Tryz.arr101 Tryz.zero101 Tryz.int104 Tryz.flat104 Tryz.agg111 Tryz.sz111 Tryz.zero111 Tryz.agg115 Tryz.agg122 Tryz.sz122 Tryz.zero122 Tryz.arr151 Tryz.slc151 Tryz.map151 Tryz.agg164 Tryz.sz164 Tryz.zero164 Tryz.agg168 Tryz.sz168 Tryz.int168 Tryz.flat168 Tryz.sz181 Tryz.zero181 Tryz.agg189 Tryz.sz189 Tryz.arr189 Tryz.slc189 Tryz.map189 Tryz.agg194 Tryz.agg196 Tryz.sz196 Tryz.zero196 Tryz.zero200 Tryz.places200 Tryz.agg212 Tryz.sz212 Tryz.zero212 Tryz.places212 Tryz.arr243 Tryz.slc243 Tryz.map243 Tryz.agg245 Tryz.sz245 Tryz.zero245 Tryz.arr284 Tryz.slc284 Tryz.map284 Tryz.arr287 Tryz.agg289 Tryz.sz289 Tryz.zero289 Tryz.arr301 Tryz.zero301 Tryz.fld65_0 Tryz.fld65_1 Tryz.fld69_0 Tryz.fld69_1 Tryz.fld96_0 Tryz.fld96_1 Tryz.fld96_2 Tryz.fld96_3 Tryz.fld96_4 Tryz.fld96_5 Tryz.fld96_6 Tryz.fld111_0 Tryz.fld122_0 Tryz.fld122_1 Tryz.fld122_2 Tryz.fld122_3 Tryz.fld191_0 Tryz.fld191_1 Tryz.fld191_2 Tryz.fld196_0 Tryz.fld196_1 Tryz.fld200_0 Tryz.fld200_1 Tryz.fld200_2 Tryz.fld200_3 Tryz.fld200_4 Tryz.fld200_5 Tryz.fld200_6 Tryz.fld203_0 Tryz.fld203_1 Tryz.fld212_0 Tryz.fld212_1 Tryz.fld212_2 Tryz.fld212_3 Tryz.fld289_0 Tryz.fld289_1 Tryz.fld289_2 Tryz.fld289_3 Tryz.cv3_5 Tryz.cv3_104 Tryz.cv3_168 Tryz.cv5_3 Tryz.cv5_99 Tryz.cv25_9 Tryz.cv25_25 Tryz.cv99_5 Tryz.cv168_5 Tryz.eqg23 Tryz.eqg34
-- gosem.cut.init
-- ledger/ledgerlaw22.WitnessVerifies
-- ledger/ledgerlaw22.WitnessParts
-- ledger/ledgerlaw22.WitnessGathers
-- ledger/ledgerlaw22.WitnessSteps
-- ledger/ledgerlaw22.WitnessClashes
-- ledger/ledgerlaw22.WitnessBinds
theorem Tryz.isb8:Tryz.f8.body.isSome=true:=by kernel_rfl
theorem Tryz.ok8:codeOk Tryz.prog Tryz.f8.ntmps [] (bodyOf Tryz.f8)=true:=by kernel_rfl
theorem Tryz.go8 {args:Array Value} {w:World} {K:Value→World→Prop} (hargs:args.size≤107):DenF Tryz.prog Tryz.f8 [] args w K→Fn Tryz.prog 8 args w K :=
 fn_of_denF [] Tryz.func8 Tryz.isb8 Tryz.ok8 Tryz.ntmps8 hargs
-- ledger/ledgerlaw22.WitnessRenews
-- ledger/ledgerlaw22.laid
-- ledger/ledgerlaw22.known
theorem Tryz.pl11:plainFn Tryz.prog 11=true:=by kernel_rfl
theorem Tryz.isb11:Tryz.f11.body.isSome=true:=by kernel_rfl
theorem Tryz.ok11:codeOk Tryz.prog Tryz.f11.ntmps [] (bodyOf Tryz.f11)=true:=by kernel_rfl
theorem Tryz.go11 {args:Array Value} {w:World} {K:Value→World→Prop} (hargs:args.size≤129):DenF Tryz.prog Tryz.f11 [] args w K→Fn Tryz.prog 11 args w K :=
 fn_of_denF [] Tryz.func11 Tryz.isb11 Tryz.ok11 Tryz.ntmps11 hargs
-- ledger/ledgerlaw22.verified
-- ledger/ledgerlaw22.other
-- (*ledger/ledgerlaw22.Places).over
-- ledger/ledgerlaw22.turned
-- ledger/ledgerlaw22.parted
-- ledger/ledgerlaw22.gathered
-- ledger/ledgerlaw22.stepped
-- ledger/ledgerlaw22.clashed
-- ledger/ledgerlaw22.whole
theorem Tryz.pl20:plainFn Tryz.prog 20=true:=by kernel_rfl
theorem Tryz.isb20:Tryz.f20.body.isSome=true:=by kernel_rfl
theorem Tryz.ok20:codeOk Tryz.prog Tryz.f20.ntmps [] (bodyOf Tryz.f20)=true:=by kernel_rfl
theorem Tryz.go20 {args:Array Value} {w:World} {K:Value→World→Prop} (hargs:args.size≤25):DenF Tryz.prog Tryz.f20 [] args w K→Fn Tryz.prog 20 args w K :=
 fn_of_denF [] Tryz.func20 Tryz.isb20 Tryz.ok20 Tryz.ntmps20 hargs
-- ledger/ledgerlaw22.once
theorem Tryz.pl21:plainFn Tryz.prog 21=true:=by kernel_rfl
theorem Tryz.isb21:Tryz.f21.body.isSome=true:=by kernel_rfl
theorem Tryz.ok21:codeOk Tryz.prog Tryz.f21.ntmps [] (bodyOf Tryz.f21)=true:=by kernel_rfl
theorem Tryz.go21 {args:Array Value} {w:World} {K:Value→World→Prop} (hargs:args.size≤45):DenF Tryz.prog Tryz.f21 [] args w K→Fn Tryz.prog 21 args w K :=
 fn_of_denF [] Tryz.func21 Tryz.isb21 Tryz.ok21 Tryz.ntmps21 hargs
-- ledger/ledgerlaw22.copied
theorem Tryz.pl22:plainFn Tryz.prog 22=true:=by kernel_rfl
theorem Tryz.isb22:Tryz.f22.body.isSome=true:=by kernel_rfl
theorem Tryz.ok22:codeOk Tryz.prog Tryz.f22.ntmps [] (bodyOf Tryz.f22)=true:=by kernel_rfl
theorem Tryz.go22 {args:Array Value} {w:World} {K:Value→World→Prop} (hargs:args.size≤7):DenF Tryz.prog Tryz.f22 [] args w K→Fn Tryz.prog 22 args w K :=
 fn_of_denF [] Tryz.func22 Tryz.isb22 Tryz.ok22 Tryz.ntmps22 hargs
-- ledger/witness.Verify
theorem Tryz.pl23:plainFn Tryz.prog 23=true:=by kernel_rfl
theorem Tryz.isb23:Tryz.f23.body.isSome=true:=by kernel_rfl
theorem Tryz.ok23:codeOk Tryz.prog Tryz.f23.ntmps [] (bodyOf Tryz.f23)=true:=by kernel_rfl
theorem Tryz.go23 {args:Array Value} {w:World} {K:Value→World→Prop} (hargs:args.size≤53):DenF Tryz.prog Tryz.f23 [] args w K→Fn Tryz.prog 23 args w K :=
 fn_of_denF [] Tryz.func23 Tryz.isb23 Tryz.ok23 Tryz.ntmps23 hargs
-- ledger/witness.Clash
theorem Tryz.pl24:plainFn Tryz.prog 24=true:=by kernel_rfl
theorem Tryz.isb24:Tryz.f24.body.isSome=true:=by kernel_rfl
theorem Tryz.ok24:codeOk Tryz.prog Tryz.f24.ntmps [13,15] (bodyOf Tryz.f24)=true:=by kernel_rfl
theorem Tryz.go24 {args:Array Value} {w:World} {K:Value→World→Prop} (hargs:args.size≤96):DenF Tryz.prog Tryz.f24 [13,15] args w K→Fn Tryz.prog 24 args w K :=
 fn_of_denF [13,15] Tryz.func24 Tryz.isb24 Tryz.ok24 Tryz.ntmps24 hargs
-- ledger/ledgerlaw22.sameAnswers
theorem Tryz.pl25:plainFn Tryz.prog 25=true:=by kernel_rfl
theorem Tryz.isb25:Tryz.f25.body.isSome=true:=by kernel_rfl
theorem Tryz.ok25:codeOk Tryz.prog Tryz.f25.ntmps [] (bodyOf Tryz.f25)=true:=by kernel_rfl
theorem Tryz.go25 {args:Array Value} {w:World} {K:Value→World→Prop} (hargs:args.size≤42):DenF Tryz.prog Tryz.f25 [] args w K→Fn Tryz.prog 25 args w K :=
 fn_of_denF [] Tryz.func25 Tryz.isb25 Tryz.ok25 Tryz.ntmps25 hargs
-- ledger/ledgerlaw22.same
theorem Tryz.pl26:plainFn Tryz.prog 26=true:=by kernel_rfl
theorem Tryz.isb26:Tryz.f26.body.isSome=true:=by kernel_rfl
theorem Tryz.ok26:codeOk Tryz.prog Tryz.f26.ntmps [] (bodyOf Tryz.f26)=true:=by kernel_rfl
theorem Tryz.go26 {args:Array Value} {w:World} {K:Value→World→Prop} (hargs:args.size≤26):DenF Tryz.prog Tryz.f26 [] args w K→Fn Tryz.prog 26 args w K :=
 fn_of_denF [] Tryz.func26 Tryz.isb26 Tryz.ok26 Tryz.ntmps26 hargs
-- ledger/ledgerref1.Sum
theorem Tryz.pl27:plainFn Tryz.prog 27=true:=by kernel_rfl
theorem Tryz.isb27:Tryz.f27.body.isSome=true:=by kernel_rfl
theorem Tryz.ok27:codeOk Tryz.prog Tryz.f27.ntmps [] (bodyOf Tryz.f27)=true:=by kernel_rfl
theorem Tryz.go27 {args:Array Value} {w:World} {K:Value→World→Prop} (hargs:args.size≤42):DenF Tryz.prog Tryz.f27 [] args w K→Fn Tryz.prog 27 args w K :=
 fn_of_denF [] Tryz.func27 Tryz.isb27 Tryz.ok27 Tryz.ntmps27 hargs
-- ledger/ledgerlaw22.renewed
-- ledger/ledgerlaw22.keysOf
-- ledger/ledgerlaw22.roomy
-- ledger/ledgerref10.Root
theorem Tryz.pl31:plainFn Tryz.prog 31=true:=by kernel_rfl
theorem Tryz.isb31:Tryz.f31.body.isSome=true:=by kernel_rfl
theorem Tryz.ok31:codeOk Tryz.prog Tryz.f31.ntmps [] (bodyOf Tryz.f31)=true:=by kernel_rfl
theorem Tryz.go31 {args:Array Value} {w:World} {K:Value→World→Prop} (hargs:args.size≤12):DenF Tryz.prog Tryz.f31 [] args w K→Fn Tryz.prog 31 args w K :=
 fn_of_denF [] Tryz.func31 Tryz.isb31 Tryz.ok31 Tryz.ntmps31 hargs
-- ledger/witness.Step
theorem Tryz.pl32:plainFn Tryz.prog 32=true:=by kernel_rfl
theorem Tryz.isb32:Tryz.f32.body.isSome=true:=by kernel_rfl
theorem Tryz.ok32:codeOk Tryz.prog Tryz.f32.ntmps [] (bodyOf Tryz.f32)=true:=by kernel_rfl
theorem Tryz.go32 {args:Array Value} {w:World} {K:Value→World→Prop} (hargs:args.size≤54):DenF Tryz.prog Tryz.f32 [] args w K→Fn Tryz.prog 32 args w K :=
 fn_of_denF [] Tryz.func32 Tryz.isb32 Tryz.ok32 Tryz.ntmps32 hargs
-- ledger/witness.Part
theorem Tryz.pl33:plainFn Tryz.prog 33=true:=by kernel_rfl
theorem Tryz.isb33:Tryz.f33.body.isSome=true:=by kernel_rfl
theorem Tryz.ok33:codeOk Tryz.prog Tryz.f33.ntmps [] (bodyOf Tryz.f33)=true:=by kernel_rfl
theorem Tryz.go33 {args:Array Value} {w:World} {K:Value→World→Prop} (hargs:args.size≤40):DenF Tryz.prog Tryz.f33 [] args w K→Fn Tryz.prog 33 args w K :=
 fn_of_denF [] Tryz.func33 Tryz.isb33 Tryz.ok33 Tryz.ntmps33 hargs
-- ledger/witness.Gather
theorem Tryz.pl34:plainFn Tryz.prog 34=true:=by kernel_rfl
theorem Tryz.isb34:Tryz.f34.body.isSome=true:=by kernel_rfl
theorem Tryz.ok34:codeOk Tryz.prog Tryz.f34.ntmps [10,24,31] (bodyOf Tryz.f34)=true:=by kernel_rfl
theorem Tryz.go34 {args:Array Value} {w:World} {K:Value→World→Prop} (hargs:args.size≤131):DenF Tryz.prog Tryz.f34 [10,24,31] args w K→Fn Tryz.prog 34 args w K :=
 fn_of_denF [10,24,31] Tryz.func34 Tryz.isb34 Tryz.ok34 Tryz.ntmps34 hargs
-- ledger/ledgerref12.Bytes
theorem Tryz.pl35:plainFn Tryz.prog 35=true:=by kernel_rfl
theorem Tryz.isb35:Tryz.f35.body.isSome=true:=by kernel_rfl
theorem Tryz.ok35:codeOk Tryz.prog Tryz.f35.ntmps [] (bodyOf Tryz.f35)=true:=by kernel_rfl
theorem Tryz.go35 {args:Array Value} {w:World} {K:Value→World→Prop} (hargs:args.size≤20):DenF Tryz.prog Tryz.f35 [] args w K→Fn Tryz.prog 35 args w K :=
 fn_of_denF [] Tryz.func35 Tryz.isb35 Tryz.ok35 Tryz.ntmps35 hargs
-- ledger/ledgerref22.Verify
-- (*ledger/ledgerlaw22.Places).left
-- ledger/ledgerlaw22.keysPlaced
-- ledger/ledgerlaw22.place
-- ledger/ledgerref22.Part
-- ledger/ledgerref22.Gather
-- ledger/ledgerref22.Step
-- ledger/ledgerref22.Unlike
-- ledger/ledgerref13.Extract
-- ledger/ledgerlaw22.short
theorem Tryz.pl45:plainFn Tryz.prog 45=true:=by kernel_rfl
theorem Tryz.isb45:Tryz.f45.body.isSome=true:=by kernel_rfl
theorem Tryz.ok45:codeOk Tryz.prog Tryz.f45.ntmps [] (bodyOf Tryz.f45)=true:=by kernel_rfl
theorem Tryz.go45 {args:Array Value} {w:World} {K:Value→World→Prop} (hargs:args.size≤26):DenF Tryz.prog Tryz.f45 [] args w K→Fn Tryz.prog 45 args w K :=
 fn_of_denF [] Tryz.func45 Tryz.isb45 Tryz.ok45 Tryz.ntmps45 hargs
-- ledger/witness.sorted
theorem Tryz.pl46:plainFn Tryz.prog 46=true:=by kernel_rfl
theorem Tryz.isb46:Tryz.f46.body.isSome=true:=by kernel_rfl
theorem Tryz.ok46:codeOk Tryz.prog Tryz.f46.ntmps [] (bodyOf Tryz.f46)=true:=by kernel_rfl
theorem Tryz.go46 {args:Array Value} {w:World} {K:Value→World→Prop} (hargs:args.size≤38):DenF Tryz.prog Tryz.f46 [] args w K→Fn Tryz.prog 46 args w K :=
 fn_of_denF [] Tryz.func46 Tryz.isb46 Tryz.ok46 Tryz.ntmps46 hargs
-- ledger/witness.under
theorem Tryz.pl47:plainFn Tryz.prog 47=true:=by kernel_rfl
theorem Tryz.isb47:Tryz.f47.body.isSome=true:=by kernel_rfl
theorem Tryz.ok47:codeOk Tryz.prog Tryz.f47.ntmps [2] (bodyOf Tryz.f47)=true:=by kernel_rfl
theorem Tryz.go47 {args:Array Value} {w:World} {K:Value→World→Prop} (hargs:args.size≤34):DenF Tryz.prog Tryz.f47 [2] args w K→Fn Tryz.prog 47 args w K :=
 fn_of_denF [2] Tryz.func47 Tryz.isb47 Tryz.ok47 Tryz.ntmps47 hargs
-- (*ledger/witness.twig).end
theorem Tryz.pl48:plainFn Tryz.prog 48=true:=by kernel_rfl
theorem Tryz.isb48:Tryz.f48.body.isSome=true:=by kernel_rfl
theorem Tryz.ok48:codeOk Tryz.prog Tryz.f48.ntmps [] (bodyOf Tryz.f48)=true:=by kernel_rfl
theorem Tryz.go48 {args:Array Value} {w:World} {K:Value→World→Prop} (hargs:args.size≤27):DenF Tryz.prog Tryz.f48 [] args w K→Fn Tryz.prog 48 args w K :=
 fn_of_denF [] Tryz.func48 Tryz.isb48 Tryz.ok48 Tryz.ntmps48 hargs
-- bytes.Equal
theorem Tryz.pl49:plainFn Tryz.prog 49=true:=by kernel_rfl
theorem Tryz.isb49:Tryz.f49.body.isSome=true:=by kernel_rfl
theorem Tryz.ok49:codeOk Tryz.prog Tryz.f49.ntmps [] (bodyOf Tryz.f49)=true:=by kernel_rfl
theorem Tryz.go49 {args:Array Value} {w:World} {K:Value→World→Prop} (hargs:args.size≤10):DenF Tryz.prog Tryz.f49 [] args w K→Fn Tryz.prog 49 args w K :=
 fn_of_denF [] Tryz.func49 Tryz.isb49 Tryz.ok49 Tryz.ntmps49 hargs
-- ledger/client.Extract
theorem Tryz.pl50:plainFn Tryz.prog 50=true:=by kernel_rfl
theorem Tryz.isb50:Tryz.f50.body.isSome=true:=by kernel_rfl
theorem Tryz.ok50:codeOk Tryz.prog Tryz.f50.ntmps [] (bodyOf Tryz.f50)=true:=by kernel_rfl
theorem Tryz.go50 {args:Array Value} {w:World} {K:Value→World→Prop} (hargs:args.size≤70):DenF Tryz.prog Tryz.f50 [] args w K→Fn Tryz.prog 50 args w K :=
 fn_of_denF [] Tryz.func50 Tryz.isb50 Tryz.ok50 Tryz.ntmps50 hargs
-- (*ledger/witness.twig).single
theorem Tryz.pl51:plainFn Tryz.prog 51=true:=by kernel_rfl
theorem Tryz.isb51:Tryz.f51.body.isSome=true:=by kernel_rfl
theorem Tryz.ok51:codeOk Tryz.prog Tryz.f51.ntmps [1,8] (bodyOf Tryz.f51)=true:=by kernel_rfl
theorem Tryz.go51 {args:Array Value} {w:World} {K:Value→World→Prop} (hargs:args.size≤75):DenF Tryz.prog Tryz.f51 [1,8] args w K→Fn Tryz.prog 51 args w K :=
 fn_of_denF [1,8] Tryz.func51 Tryz.isb51 Tryz.ok51 Tryz.ntmps51 hargs
-- ledger/ledgerref1.filled
theorem Tryz.pl52:plainFn Tryz.prog 52=true:=by kernel_rfl
theorem Tryz.isb52:Tryz.f52.body.isSome=true:=by kernel_rfl
theorem Tryz.ok52:codeOk Tryz.prog Tryz.f52.ntmps [] (bodyOf Tryz.f52)=true:=by kernel_rfl
theorem Tryz.go52 {args:Array Value} {w:World} {K:Value→World→Prop} (hargs:args.size≤38):DenF Tryz.prog Tryz.f52 [] args w K→Fn Tryz.prog 52 args w K :=
 fn_of_denF [] Tryz.func52 Tryz.isb52 Tryz.ok52 Tryz.ntmps52 hargs
-- ledger/ledgerref1.words
theorem Tryz.pl53:plainFn Tryz.prog 53=true:=by kernel_rfl
theorem Tryz.isb53:Tryz.f53.body.isSome=true:=by kernel_rfl
theorem Tryz.ok53:codeOk Tryz.prog Tryz.f53.ntmps [10,11] (bodyOf Tryz.f53)=true:=by kernel_rfl
theorem Tryz.go53 {args:Array Value} {w:World} {K:Value→World→Prop} (hargs:args.size≤104):DenF Tryz.prog Tryz.f53 [10,11] args w K→Fn Tryz.prog 53 args w K :=
 fn_of_denF [10,11] Tryz.func53 Tryz.isb53 Tryz.ok53 Tryz.ntmps53 hargs
-- ledger/ledgerref1.behind
theorem Tryz.pl54:plainFn Tryz.prog 54=true:=by kernel_rfl
theorem Tryz.isb54:Tryz.f54.body.isSome=true:=by kernel_rfl
theorem Tryz.ok54:codeOk Tryz.prog Tryz.f54.ntmps [5,8] (bodyOf Tryz.f54)=true:=by kernel_rfl
theorem Tryz.go54 {args:Array Value} {w:World} {K:Value→World→Prop} (hargs:args.size≤119):DenF Tryz.prog Tryz.f54 [5,8] args w K→Fn Tryz.prog 54 args w K :=
 fn_of_denF [5,8] Tryz.func54 Tryz.isb54 Tryz.ok54 Tryz.ntmps54 hargs
-- ledger/witness.Renew
-- ledger/ledgerref22.Renew
-- ledger/ledgerref9.Empties
theorem Tryz.pl57:plainFn Tryz.prog 57=true:=by kernel_rfl
theorem Tryz.isb57:Tryz.f57.body.isSome=true:=by kernel_rfl
theorem Tryz.ok57:codeOk Tryz.prog Tryz.f57.ntmps [] (bodyOf Tryz.f57)=true:=by kernel_rfl
theorem Tryz.go57 {args:Array Value} {w:World} {K:Value→World→Prop} (hargs:args.size≤24):DenF Tryz.prog Tryz.f57 [] args w K→Fn Tryz.prog 57 args w K :=
 fn_of_denF [] Tryz.func57 Tryz.isb57 Tryz.ok57 Tryz.ntmps57 hargs
-- ledger/ledgerref10.digest
theorem Tryz.pl58:plainFn Tryz.prog 58=true:=by kernel_rfl
theorem Tryz.isb58:Tryz.f58.body.isSome=true:=by kernel_rfl
theorem Tryz.ok58:codeOk Tryz.prog Tryz.f58.ntmps [4] (bodyOf Tryz.f58)=true:=by kernel_rfl
theorem Tryz.go58 {args:Array Value} {w:World} {K:Value→World→Prop} (hargs:args.size≤67):DenF Tryz.prog Tryz.f58 [4] args w K→Fn Tryz.prog 58 args w K :=
 fn_of_denF [4] Tryz.func58 Tryz.isb58 Tryz.ok58 Tryz.ntmps58 hargs
-- ledger/witness.parsed
theorem Tryz.pl59:plainFn Tryz.prog 59=true:=by kernel_rfl
theorem Tryz.isb59:Tryz.f59.body.isSome=true:=by kernel_rfl
theorem Tryz.ok59:codeOk Tryz.prog Tryz.f59.ntmps [] (bodyOf Tryz.f59)=true:=by kernel_rfl
theorem Tryz.go59 {args:Array Value} {w:World} {K:Value→World→Prop} (hargs:args.size≤45):DenF Tryz.prog Tryz.f59 [] args w K→Fn Tryz.prog 59 args w K :=
 fn_of_denF [] Tryz.func59 Tryz.isb59 Tryz.ok59 Tryz.ntmps59 hargs
-- ledger/witness.hashed
theorem Tryz.pl60:plainFn Tryz.prog 60=true:=by kernel_rfl
theorem Tryz.isb60:Tryz.f60.body.isSome=true:=by kernel_rfl
theorem Tryz.ok60:codeOk Tryz.prog Tryz.f60.ntmps [] (bodyOf Tryz.f60)=true:=by kernel_rfl
theorem Tryz.go60 {args:Array Value} {w:World} {K:Value→World→Prop} (hargs:args.size≤12):DenF Tryz.prog Tryz.f60 [] args w K→Fn Tryz.prog 60 args w K :=
 fn_of_denF [] Tryz.func60 Tryz.isb60 Tryz.ok60 Tryz.ntmps60 hargs
-- (ledger/witness.turn).says
-- ledger/witness.read
theorem Tryz.pl62:plainFn Tryz.prog 62=true:=by kernel_rfl
theorem Tryz.isb62:Tryz.f62.body.isSome=true:=by kernel_rfl
theorem Tryz.ok62:codeOk Tryz.prog Tryz.f62.ntmps [12] (bodyOf Tryz.f62)=true:=by kernel_rfl
theorem Tryz.go62 {args:Array Value} {w:World} {K:Value→World→Prop} (hargs:args.size≤75):DenF Tryz.prog Tryz.f62 [12] args w K→Fn Tryz.prog 62 args w K :=
 fn_of_denF [12] Tryz.func62 Tryz.isb62 Tryz.ok62 Tryz.ntmps62 hargs
-- slices.Contains[[]ledger/api.Key,ledger/api.Key]
theorem Tryz.pl63:plainFn Tryz.prog 63=true:=by kernel_rfl
theorem Tryz.isb63:Tryz.f63.body.isSome=true:=by kernel_rfl
theorem Tryz.ok63:codeOk Tryz.prog Tryz.f63.ntmps [] (bodyOf Tryz.f63)=true:=by kernel_rfl
theorem Tryz.go63 {args:Array Value} {w:World} {K:Value→World→Prop} (hargs:args.size≤9):DenF Tryz.prog Tryz.f63 [] args w K→Fn Tryz.prog 63 args w K :=
 fn_of_denF [] Tryz.func63 Tryz.isb63 Tryz.ok63 Tryz.ntmps63 hargs
-- ledger/witness.empties
theorem Tryz.pl64:plainFn Tryz.prog 64=true:=by kernel_rfl
theorem Tryz.isb64:Tryz.f64.body.isSome=true:=by kernel_rfl
theorem Tryz.ok64:codeOk Tryz.prog Tryz.f64.ntmps [] (bodyOf Tryz.f64)=true:=by kernel_rfl
theorem Tryz.go64 {args:Array Value} {w:World} {K:Value→World→Prop} (hargs:args.size≤26):DenF Tryz.prog Tryz.f64 [] args w K→Fn Tryz.prog 64 args w K :=
 fn_of_denF [] Tryz.func64 Tryz.isb64 Tryz.ok64 Tryz.ntmps64 hargs
-- ledger/client.Verify
-- ledger/proof.Decode
theorem Tryz.pl66:plainFn Tryz.prog 66=true:=by kernel_rfl
theorem Tryz.isb66:Tryz.f66.body.isSome=true:=by kernel_rfl
theorem Tryz.ok66:codeOk Tryz.prog Tryz.f66.ntmps [11] (bodyOf Tryz.f66)=true:=by kernel_rfl
theorem Tryz.go66 {args:Array Value} {w:World} {K:Value→World→Prop} (hargs:args.size≤51):DenF Tryz.prog Tryz.f66 [11] args w K→Fn Tryz.prog 66 args w K :=
 fn_of_denF [11] Tryz.func66 Tryz.isb66 Tryz.ok66 Tryz.ntmps66 hargs
-- ledger/witness.grown
-- ledger/witness.asIs
theorem Tryz.pl68:plainFn Tryz.prog 68=true:=by kernel_rfl
theorem Tryz.isb68:Tryz.f68.body.isSome=true:=by kernel_rfl
theorem Tryz.ok68:codeOk Tryz.prog Tryz.f68.ntmps [] (bodyOf Tryz.f68)=true:=by kernel_rfl
theorem Tryz.go68 {args:Array Value} {w:World} {K:Value→World→Prop} (hargs:args.size≤6):DenF Tryz.prog Tryz.f68 [] args w K→Fn Tryz.prog 68 args w K :=
 fn_of_denF [] Tryz.func68 Tryz.isb68 Tryz.ok68 Tryz.ntmps68 hargs
-- ledger/witness.laid
theorem Tryz.pl69:plainFn Tryz.prog 69=true:=by kernel_rfl
theorem Tryz.isb69:Tryz.f69.body.isSome=true:=by kernel_rfl
theorem Tryz.ok69:codeOk Tryz.prog Tryz.f69.ntmps [] (bodyOf Tryz.f69)=true:=by kernel_rfl
theorem Tryz.go69 {args:Array Value} {w:World} {K:Value→World→Prop} (hargs:args.size≤12):DenF Tryz.prog Tryz.f69 [] args w K→Fn Tryz.prog 69 args w K :=
 fn_of_denF [] Tryz.func69 Tryz.isb69 Tryz.ok69 Tryz.ntmps69 hargs
-- ledger/ledgerref12.Prove
theorem Tryz.pl70:plainFn Tryz.prog 70=true:=by kernel_rfl
theorem Tryz.isb70:Tryz.f70.body.isSome=true:=by kernel_rfl
theorem Tryz.ok70:codeOk Tryz.prog Tryz.f70.ntmps [] (bodyOf Tryz.f70)=true:=by kernel_rfl
theorem Tryz.go70 {args:Array Value} {w:World} {K:Value→World→Prop} (hargs:args.size≤15):DenF Tryz.prog Tryz.f70 [] args w K→Fn Tryz.prog 70 args w K :=
 fn_of_denF [] Tryz.func70 Tryz.isb70 Tryz.ok70 Tryz.ntmps70 hargs
-- ledger/ledgerref12.Encode
theorem Tryz.pl71:plainFn Tryz.prog 71=true:=by kernel_rfl
theorem Tryz.isb71:Tryz.f71.body.isSome=true:=by kernel_rfl
theorem Tryz.ok71:codeOk Tryz.prog Tryz.f71.ntmps [1] (bodyOf Tryz.f71)=true:=by kernel_rfl
theorem Tryz.go71 {args:Array Value} {w:World} {K:Value→World→Prop} (hargs:args.size≤95):DenF Tryz.prog Tryz.f71 [1] args w K→Fn Tryz.prog 71 args w K :=
 fn_of_denF [1] Tryz.func71 Tryz.isb71 Tryz.ok71 Tryz.ntmps71 hargs
-- ledger/ledgerref22.Sorted
-- ledger/ledgerref22.Holds
-- (*ledger/ledgerref22.Witness).of
-- ledger/ledgerlaw22.left
-- ledger/ledgerlaw22.keysLeft
-- ledger/ledgerref22.Form
-- ledger/ledgerref22.has
-- ledger/ledgerref22.single
-- (*ledger/ledgerref22.Witness).neighbours
-- ledger/ledgerref13.Verify
-- ledger/ledgerref12.Decode
-- ledger/ledgerref22.Composed
-- ledger/ledgerref22.batch
-- (*ledger/ledgerref22.Witness).Root
-- ledger/ledgerref13.wide
-- ledger/ledgerref13.holds
-- ledger/ledgerref13.text
-- slices.Clone[[]ledger/api.Key,ledger/api.Key]
theorem Tryz.pl89:plainFn Tryz.prog 89=true:=by kernel_rfl
theorem Tryz.isb89:Tryz.f89.body.isSome=true:=by kernel_rfl
theorem Tryz.ok89:codeOk Tryz.prog Tryz.f89.ntmps [] (bodyOf Tryz.f89)=true:=by kernel_rfl
theorem Tryz.go89 {args:Array Value} {w:World} {K:Value→World→Prop} (hargs:args.size≤8):DenF Tryz.prog Tryz.f89 [] args w K→Fn Tryz.prog 89 args w K :=
 fn_of_denF [] Tryz.func89 Tryz.isb89 Tryz.ok89 Tryz.ntmps89 hargs
-- slices.SortFunc[[]ledger/api.Key,ledger/api.Key]
theorem Tryz.pl90:plainFn Tryz.prog 90=true:=by kernel_rfl
-- ledger/batch.Compare
theorem Tryz.pl91:plainFn Tryz.prog 91=true:=by kernel_rfl
theorem Tryz.isb91:Tryz.f91.body.isSome=true:=by kernel_rfl
theorem Tryz.ok91:codeOk Tryz.prog Tryz.f91.ntmps [] (bodyOf Tryz.f91)=true:=by kernel_rfl
theorem Tryz.go91 {args:Array Value} {w:World} {K:Value→World→Prop} (hargs:args.size≤8):DenF Tryz.prog Tryz.f91 [] args w K→Fn Tryz.prog 91 args w K :=
 fn_of_denF [] Tryz.func91 Tryz.isb91 Tryz.ok91 Tryz.ntmps91 hargs
-- ledger/batch.Bit
theorem Tryz.pl92:plainFn Tryz.prog 92=true:=by kernel_rfl
theorem Tryz.isb92:Tryz.f92.body.isSome=true:=by kernel_rfl
theorem Tryz.ok92:codeOk Tryz.prog Tryz.f92.ntmps [] (bodyOf Tryz.f92)=true:=by kernel_rfl
theorem Tryz.go92 {args:Array Value} {w:World} {K:Value→World→Prop} (hargs:args.size≤21):DenF Tryz.prog Tryz.f92 [] args w K→Fn Tryz.prog 92 args w K :=
 fn_of_denF [] Tryz.func92 Tryz.isb92 Tryz.ok92 Tryz.ntmps92 hargs
-- ledger/client.held
theorem Tryz.pl93:plainFn Tryz.prog 93=true:=by kernel_rfl
theorem Tryz.isb93:Tryz.f93.body.isSome=true:=by kernel_rfl
theorem Tryz.ok93:codeOk Tryz.prog Tryz.f93.ntmps [] (bodyOf Tryz.f93)=true:=by kernel_rfl
theorem Tryz.go93 {args:Array Value} {w:World} {K:Value→World→Prop} (hargs:args.size≤42):DenF Tryz.prog Tryz.f93 [] args w K→Fn Tryz.prog 93 args w K :=
 fn_of_denF [] Tryz.func93 Tryz.isb93 Tryz.ok93 Tryz.ntmps93 hargs
-- (*ledger/client.check).texts
theorem Tryz.pl94:plainFn Tryz.prog 94=true:=by kernel_rfl
theorem Tryz.isb94:Tryz.f94.body.isSome=true:=by kernel_rfl
theorem Tryz.ok94:codeOk Tryz.prog Tryz.f94.ntmps [5] (bodyOf Tryz.f94)=true:=by kernel_rfl
theorem Tryz.go94 {args:Array Value} {w:World} {K:Value→World→Prop} (hargs:args.size≤29):DenF Tryz.prog Tryz.f94 [5] args w K→Fn Tryz.prog 94 args w K :=
 fn_of_denF [5] Tryz.func94 Tryz.isb94 Tryz.ok94 Tryz.ntmps94 hargs
-- ledger/ledgerref1.turn
theorem Tryz.pl95:plainFn Tryz.prog 95=true:=by kernel_rfl
theorem Tryz.isb95:Tryz.f95.body.isSome=true:=by kernel_rfl
theorem Tryz.ok95:codeOk Tryz.prog Tryz.f95.ntmps [] (bodyOf Tryz.f95)=true:=by kernel_rfl
theorem Tryz.go95 {args:Array Value} {w:World} {K:Value→World→Prop} (hargs:args.size≤13):DenF Tryz.prog Tryz.f95 [] args w K→Fn Tryz.prog 95 args w K :=
 fn_of_denF [] Tryz.func95 Tryz.isb95 Tryz.ok95 Tryz.ntmps95 hargs
-- ledger/witness.Renew$1
-- (*ledger/witness.twig).beside
-- (*ledger/ledgerref22.Witness).renewed
-- ledger/ledgerref9.cut
theorem Tryz.pl99:plainFn Tryz.prog 99=true:=by kernel_rfl
theorem Tryz.isb99:Tryz.f99.body.isSome=true:=by kernel_rfl
theorem Tryz.ok99:codeOk Tryz.prog Tryz.f99.ntmps [] (bodyOf Tryz.f99)=true:=by kernel_rfl
theorem Tryz.go99 {args:Array Value} {w:World} {K:Value→World→Prop} (hargs:args.size≤11):DenF Tryz.prog Tryz.f99 [] args w K→Fn Tryz.prog 99 args w K :=
 fn_of_denF [] Tryz.func99 Tryz.isb99 Tryz.ok99 Tryz.ntmps99 hargs
-- ledger/ledgerref9.Branch
theorem Tryz.pl100:plainFn Tryz.prog 100=true:=by kernel_rfl
theorem Tryz.isb100:Tryz.f100.body.isSome=true:=by kernel_rfl
theorem Tryz.ok100:codeOk Tryz.prog Tryz.f100.ntmps [] (bodyOf Tryz.f100)=true:=by kernel_rfl
theorem Tryz.go100 {args:Array Value} {w:World} {K:Value→World→Prop} (hargs:args.size≤15):DenF Tryz.prog Tryz.f100 [] args w K→Fn Tryz.prog 100 args w K :=
 fn_of_denF [] Tryz.func100 Tryz.isb100 Tryz.ok100 Tryz.ntmps100 hargs
-- ledger/ledgerref9.Leaf
theorem Tryz.pl101:plainFn Tryz.prog 101=true:=by kernel_rfl
theorem Tryz.isb101:Tryz.f101.body.isSome=true:=by kernel_rfl
theorem Tryz.ok101:codeOk Tryz.prog Tryz.f101.ntmps [] (bodyOf Tryz.f101)=true:=by kernel_rfl
theorem Tryz.go101 {args:Array Value} {w:World} {K:Value→World→Prop} (hargs:args.size≤14):DenF Tryz.prog Tryz.f101 [] args w K→Fn Tryz.prog 101 args w K :=
 fn_of_denF [] Tryz.func101 Tryz.isb101 Tryz.ok101 Tryz.ntmps101 hargs
-- ledger/ledgerref9.ClimbWith
theorem Tryz.pl102:plainFn Tryz.prog 102=true:=by kernel_rfl
theorem Tryz.isb102:Tryz.f102.body.isSome=true:=by kernel_rfl
theorem Tryz.ok102:codeOk Tryz.prog Tryz.f102.ntmps [] (bodyOf Tryz.f102)=true:=by kernel_rfl
theorem Tryz.go102 {args:Array Value} {w:World} {K:Value→World→Prop} (hargs:args.size≤51):DenF Tryz.prog Tryz.f102 [] args w K→Fn Tryz.prog 102 args w K :=
 fn_of_denF [] Tryz.func102 Tryz.isb102 Tryz.ok102 Tryz.ntmps102 hargs
-- ledger/ledgerref10.split
theorem Tryz.pl103:plainFn Tryz.prog 103=true:=by kernel_rfl
theorem Tryz.isb103:Tryz.f103.body.isSome=true:=by kernel_rfl
theorem Tryz.ok103:codeOk Tryz.prog Tryz.f103.ntmps [] (bodyOf Tryz.f103)=true:=by kernel_rfl
theorem Tryz.go103 {args:Array Value} {w:World} {K:Value→World→Prop} (hargs:args.size≤23):DenF Tryz.prog Tryz.f103 [] args w K→Fn Tryz.prog 103 args w K :=
 fn_of_denF [] Tryz.func103 Tryz.isb103 Tryz.ok103 Tryz.ntmps103 hargs
-- ledger/batch.Parse
theorem Tryz.pl104:plainFn Tryz.prog 104=true:=by kernel_rfl
theorem Tryz.isb104:Tryz.f104.body.isSome=true:=by kernel_rfl
theorem Tryz.ok104:codeOk Tryz.prog Tryz.f104.ntmps [] (bodyOf Tryz.f104)=true:=by kernel_rfl
theorem Tryz.go104 {args:Array Value} {w:World} {K:Value→World→Prop} (hargs:args.size≤62):DenF Tryz.prog Tryz.f104 [] args w K→Fn Tryz.prog 104 args w K :=
 fn_of_denF [] Tryz.func104 Tryz.isb104 Tryz.ok104 Tryz.ntmps104 hargs
-- ledger/witness.fold[ledger/api.Digest]
theorem Tryz.pl105:plainFn Tryz.prog 105=true:=by kernel_rfl
theorem Tryz.isb105:Tryz.f105.body.isSome=true:=by kernel_rfl
theorem Tryz.ok105:codeOk Tryz.prog Tryz.f105.ntmps [4] (bodyOf Tryz.f105)=true:=by kernel_rfl
theorem Tryz.go105 {args:Array Value} {w:World} {K:Value→World→Prop} (hargs:args.size≤75):DenF Tryz.prog Tryz.f105 [4] args w K→Fn Tryz.prog 105 args w K :=
 fn_of_denF [4] Tryz.func105 Tryz.isb105 Tryz.ok105 Tryz.ntmps105 hargs
-- ledger/witness.hashed$1
theorem Tryz.pl106:plainFn Tryz.prog 106=true:=by kernel_rfl
theorem Tryz.isb106:Tryz.f106.body.isSome=true:=by kernel_rfl
theorem Tryz.ok106:codeOk Tryz.prog Tryz.f106.ntmps [] (bodyOf Tryz.f106)=true:=by kernel_rfl
theorem Tryz.go106 {args:Array Value} {w:World} {K:Value→World→Prop} (hargs:args.size≤20):DenF Tryz.prog Tryz.f106 [] args w K→Fn Tryz.prog 106 args w K :=
 fn_of_denF [] Tryz.func106 Tryz.isb106 Tryz.ok106 Tryz.ntmps106 hargs
-- ledger/node.Leaf
theorem Tryz.pl107:plainFn Tryz.prog 107=true:=by kernel_rfl
theorem Tryz.isb107:Tryz.f107.body.isSome=true:=by kernel_rfl
theorem Tryz.ok107:codeOk Tryz.prog Tryz.f107.ntmps [] (bodyOf Tryz.f107)=true:=by kernel_rfl
theorem Tryz.go107 {args:Array Value} {w:World} {K:Value→World→Prop} (hargs:args.size≤13):DenF Tryz.prog Tryz.f107 [] args w K→Fn Tryz.prog 107 args w K :=
 fn_of_denF [] Tryz.func107 Tryz.isb107 Tryz.ok107 Tryz.ntmps107 hargs
-- ledger/node.Empty
theorem Tryz.pl108:plainFn Tryz.prog 108=true:=by kernel_rfl
theorem Tryz.isb108:Tryz.f108.body.isSome=true:=by kernel_rfl
theorem Tryz.ok108:codeOk Tryz.prog Tryz.f108.ntmps [] (bodyOf Tryz.f108)=true:=by kernel_rfl
theorem Tryz.go108 {args:Array Value} {w:World} {K:Value→World→Prop} (hargs:args.size≤20):DenF Tryz.prog Tryz.f108 [] args w K→Fn Tryz.prog 108 args w K :=
 fn_of_denF [] Tryz.func108 Tryz.isb108 Tryz.ok108 Tryz.ntmps108 hargs
-- ledger/witness.hashed$2
theorem Tryz.pl109:plainFn Tryz.prog 109=true:=by kernel_rfl
theorem Tryz.isb109:Tryz.f109.body.isSome=true:=by kernel_rfl
theorem Tryz.ok109:codeOk Tryz.prog Tryz.f109.ntmps [] (bodyOf Tryz.f109)=true:=by kernel_rfl
theorem Tryz.go109 {args:Array Value} {w:World} {K:Value→World→Prop} (hargs:args.size≤10):DenF Tryz.prog Tryz.f109 [] args w K→Fn Tryz.prog 109 args w K :=
 fn_of_denF [] Tryz.func109 Tryz.isb109 Tryz.ok109 Tryz.ntmps109 hargs
-- ledger/node.Branch
theorem Tryz.pl110:plainFn Tryz.prog 110=true:=by kernel_rfl
theorem Tryz.isb110:Tryz.f110.body.isSome=true:=by kernel_rfl
theorem Tryz.ok110:codeOk Tryz.prog Tryz.f110.ntmps [] (bodyOf Tryz.f110)=true:=by kernel_rfl
theorem Tryz.go110 {args:Array Value} {w:World} {K:Value→World→Prop} (hargs:args.size≤14):DenF Tryz.prog Tryz.f110 [] args w K→Fn Tryz.prog 110 args w K :=
 fn_of_denF [] Tryz.func110 Tryz.isb110 Tryz.ok110 Tryz.ntmps110 hargs
-- ledger/witness.hashed$3
theorem Tryz.pl111:plainFn Tryz.prog 111=true:=by kernel_rfl
theorem Tryz.isb111:Tryz.f111.body.isSome=true:=by kernel_rfl
theorem Tryz.ok111:codeOk Tryz.prog Tryz.f111.ntmps [] (bodyOf Tryz.f111)=true:=by kernel_rfl
theorem Tryz.go111 {args:Array Value} {w:World} {K:Value→World→Prop} (hargs:args.size≤23):DenF Tryz.prog Tryz.f111 [] args w K→Fn Tryz.prog 111 args w K :=
 fn_of_denF [] Tryz.func111 Tryz.isb111 Tryz.ok111 Tryz.ntmps111 hargs
-- (*ledger/witness.reader).twig
theorem Tryz.pl112:plainFn Tryz.prog 112=true:=by kernel_rfl
theorem Tryz.isb112:Tryz.f112.body.isSome=true:=by kernel_rfl
theorem Tryz.ok112:codeOk Tryz.prog Tryz.f112.ntmps [] (bodyOf Tryz.f112)=true:=by kernel_rfl
theorem Tryz.go112 {args:Array Value} {w:World} {K:Value→World→Prop} (hargs:args.size≤108):DenF Tryz.prog Tryz.f112 [] args w K→Fn Tryz.prog 112 args w K :=
 fn_of_denF [] Tryz.func112 Tryz.isb112 Tryz.ok112 Tryz.ntmps112 hargs
-- ledger/digest.Cut
theorem Tryz.pl113:plainFn Tryz.prog 113=true:=by kernel_rfl
theorem Tryz.isb113:Tryz.f113.body.isSome=true:=by kernel_rfl
theorem Tryz.ok113:codeOk Tryz.prog Tryz.f113.ntmps [] (bodyOf Tryz.f113)=true:=by kernel_rfl
theorem Tryz.go113 {args:Array Value} {w:World} {K:Value→World→Prop} (hargs:args.size≤15):DenF Tryz.prog Tryz.f113 [] args w K→Fn Tryz.prog 113 args w K :=
 fn_of_denF [] Tryz.func113 Tryz.isb113 Tryz.ok113 Tryz.ntmps113 hargs
-- slices.Index[[]ledger/api.Key,ledger/api.Key]
theorem Tryz.pl114:plainFn Tryz.prog 114=true:=by kernel_rfl
theorem Tryz.isb114:Tryz.f114.body.isSome=true:=by kernel_rfl
theorem Tryz.ok114:codeOk Tryz.prog Tryz.f114.ntmps [] (bodyOf Tryz.f114)=true:=by kernel_rfl
theorem Tryz.go114 {args:Array Value} {w:World} {K:Value→World→Prop} (hargs:args.size≤19):DenF Tryz.prog Tryz.f114 [] args w K→Fn Tryz.prog 114 args w K :=
 fn_of_denF [] Tryz.func114 Tryz.isb114 Tryz.ok114 Tryz.ntmps114 hargs
-- bytes.Clone
theorem Tryz.pl115:plainFn Tryz.prog 115=true:=by kernel_rfl
theorem Tryz.isb115:Tryz.f115.body.isSome=true:=by kernel_rfl
theorem Tryz.ok115:codeOk Tryz.prog Tryz.f115.ntmps [] (bodyOf Tryz.f115)=true:=by kernel_rfl
theorem Tryz.go115 {args:Array Value} {w:World} {K:Value→World→Prop} (hargs:args.size≤8):DenF Tryz.prog Tryz.f115 [] args w K→Fn Tryz.prog 115 args w K :=
 fn_of_denF [] Tryz.func115 Tryz.isb115 Tryz.ok115 Tryz.ntmps115 hargs
-- (*ledger/proof.reader).answer
theorem Tryz.pl116:plainFn Tryz.prog 116=true:=by kernel_rfl
theorem Tryz.isb116:Tryz.f116.body.isSome=true:=by kernel_rfl
theorem Tryz.ok116:codeOk Tryz.prog Tryz.f116.ntmps [] (bodyOf Tryz.f116)=true:=by kernel_rfl
theorem Tryz.go116 {args:Array Value} {w:World} {K:Value→World→Prop} (hargs:args.size≤41):DenF Tryz.prog Tryz.f116 [] args w K→Fn Tryz.prog 116 args w K :=
 fn_of_denF [] Tryz.func116 Tryz.isb116 Tryz.ok116 Tryz.ntmps116 hargs
-- (*ledger/proof.reader).take
theorem Tryz.pl117:plainFn Tryz.prog 117=true:=by kernel_rfl
theorem Tryz.isb117:Tryz.f117.body.isSome=true:=by kernel_rfl
theorem Tryz.ok117:codeOk Tryz.prog Tryz.f117.ntmps [] (bodyOf Tryz.f117)=true:=by kernel_rfl
theorem Tryz.go117 {args:Array Value} {w:World} {K:Value→World→Prop} (hargs:args.size≤36):DenF Tryz.prog Tryz.f117 [] args w K→Fn Tryz.prog 117 args w K :=
 fn_of_denF [] Tryz.func117 Tryz.isb117 Tryz.ok117 Tryz.ntmps117 hargs
-- ledger/proof.ones
theorem Tryz.pl118:plainFn Tryz.prog 118=true:=by kernel_rfl
theorem Tryz.isb118:Tryz.f118.body.isSome=true:=by kernel_rfl
theorem Tryz.ok118:codeOk Tryz.prog Tryz.f118.ntmps [] (bodyOf Tryz.f118)=true:=by kernel_rfl
theorem Tryz.go118 {args:Array Value} {w:World} {K:Value→World→Prop} (hargs:args.size≤16):DenF Tryz.prog Tryz.f118 [] args w K→Fn Tryz.prog 118 args w K :=
 fn_of_denF [] Tryz.func118 Tryz.isb118 Tryz.ok118 Tryz.ntmps118 hargs
-- ledger/witness.split
theorem Tryz.pl119:plainFn Tryz.prog 119=true:=by kernel_rfl
theorem Tryz.isb119:Tryz.f119.body.isSome=true:=by kernel_rfl
theorem Tryz.ok119:codeOk Tryz.prog Tryz.f119.ntmps [] (bodyOf Tryz.f119)=true:=by kernel_rfl
theorem Tryz.go119 {args:Array Value} {w:World} {K:Value→World→Prop} (hargs:args.size≤30):DenF Tryz.prog Tryz.f119 [] args w K→Fn Tryz.prog 119 args w K :=
 fn_of_denF [] Tryz.func119 Tryz.isb119 Tryz.ok119 Tryz.ntmps119 hargs
-- slices.Clone[[]ledger/api.Digest,ledger/api.Digest]
theorem Tryz.pl120:plainFn Tryz.prog 120=true:=by kernel_rfl
theorem Tryz.isb120:Tryz.f120.body.isSome=true:=by kernel_rfl
theorem Tryz.ok120:codeOk Tryz.prog Tryz.f120.ntmps [] (bodyOf Tryz.f120)=true:=by kernel_rfl
theorem Tryz.go120 {args:Array Value} {w:World} {K:Value→World→Prop} (hargs:args.size≤8):DenF Tryz.prog Tryz.f120 [] args w K→Fn Tryz.prog 120 args w K :=
 fn_of_denF [] Tryz.func120 Tryz.isb120 Tryz.ok120 Tryz.ntmps120 hargs
-- ledger/witness.fold[ledger/witness.scroll]
theorem Tryz.pl121:plainFn Tryz.prog 121=true:=by kernel_rfl
theorem Tryz.isb121:Tryz.f121.body.isSome=true:=by kernel_rfl
theorem Tryz.ok121:codeOk Tryz.prog Tryz.f121.ntmps [4] (bodyOf Tryz.f121)=true:=by kernel_rfl
theorem Tryz.go121 {args:Array Value} {w:World} {K:Value→World→Prop} (hargs:args.size≤75):DenF Tryz.prog Tryz.f121 [4] args w K→Fn Tryz.prog 121 args w K :=
 fn_of_denF [4] Tryz.func121 Tryz.isb121 Tryz.ok121 Tryz.ntmps121 hargs
-- ledger/witness.laid$1
theorem Tryz.pl122:plainFn Tryz.prog 122=true:=by kernel_rfl
theorem Tryz.isb122:Tryz.f122.body.isSome=true:=by kernel_rfl
theorem Tryz.ok122:codeOk Tryz.prog Tryz.f122.ntmps [] (bodyOf Tryz.f122)=true:=by kernel_rfl
theorem Tryz.go122 {args:Array Value} {w:World} {K:Value→World→Prop} (hargs:args.size≤24):DenF Tryz.prog Tryz.f122 [] args w K→Fn Tryz.prog 122 args w K :=
 fn_of_denF [] Tryz.func122 Tryz.isb122 Tryz.ok122 Tryz.ntmps122 hargs
-- ledger/witness.laid$2
theorem Tryz.pl123:plainFn Tryz.prog 123=true:=by kernel_rfl
theorem Tryz.isb123:Tryz.f123.body.isSome=true:=by kernel_rfl
theorem Tryz.ok123:codeOk Tryz.prog Tryz.f123.ntmps [1] (bodyOf Tryz.f123)=true:=by kernel_rfl
theorem Tryz.go123 {args:Array Value} {w:World} {K:Value→World→Prop} (hargs:args.size≤12):DenF Tryz.prog Tryz.f123 [1] args w K→Fn Tryz.prog 123 args w K :=
 fn_of_denF [1] Tryz.func123 Tryz.isb123 Tryz.ok123 Tryz.ntmps123 hargs
-- (ledger/witness.scroll).text
theorem Tryz.pl124:plainFn Tryz.prog 124=true:=by kernel_rfl
theorem Tryz.isb124:Tryz.f124.body.isSome=true:=by kernel_rfl
theorem Tryz.ok124:codeOk Tryz.prog Tryz.f124.ntmps [] (bodyOf Tryz.f124)=true:=by kernel_rfl
theorem Tryz.go124 {args:Array Value} {w:World} {K:Value→World→Prop} (hargs:args.size≤13):DenF Tryz.prog Tryz.f124 [] args w K→Fn Tryz.prog 124 args w K :=
 fn_of_denF [] Tryz.func124 Tryz.isb124 Tryz.ok124 Tryz.ntmps124 hargs
-- ledger/witness.laid$3
theorem Tryz.pl125:plainFn Tryz.prog 125=true:=by kernel_rfl
theorem Tryz.isb125:Tryz.f125.body.isSome=true:=by kernel_rfl
theorem Tryz.ok125:codeOk Tryz.prog Tryz.f125.ntmps [] (bodyOf Tryz.f125)=true:=by kernel_rfl
theorem Tryz.go125 {args:Array Value} {w:World} {K:Value→World→Prop} (hargs:args.size≤33):DenF Tryz.prog Tryz.f125 [] args w K→Fn Tryz.prog 125 args w K :=
 fn_of_denF [] Tryz.func125 Tryz.isb125 Tryz.ok125 Tryz.ntmps125 hargs
-- ledger/ledgerref12.ProveWith
theorem Tryz.pl126:plainFn Tryz.prog 126=true:=by kernel_rfl
theorem Tryz.isb126:Tryz.f126.body.isSome=true:=by kernel_rfl
theorem Tryz.ok126:codeOk Tryz.prog Tryz.f126.ntmps [] (bodyOf Tryz.f126)=true:=by kernel_rfl
theorem Tryz.go126 {args:Array Value} {w:World} {K:Value→World→Prop} (hargs:args.size≤57):DenF Tryz.prog Tryz.f126 [] args w K→Fn Tryz.prog 126 args w K :=
 fn_of_denF [] Tryz.func126 Tryz.isb126 Tryz.ok126 Tryz.ntmps126 hargs
-- ledger/ledgerref12.Ones
theorem Tryz.pl127:plainFn Tryz.prog 127=true:=by kernel_rfl
theorem Tryz.isb127:Tryz.f127.body.isSome=true:=by kernel_rfl
theorem Tryz.ok127:codeOk Tryz.prog Tryz.f127.ntmps [] (bodyOf Tryz.f127)=true:=by kernel_rfl
theorem Tryz.go127 {args:Array Value} {w:World} {K:Value→World→Prop} (hargs:args.size≤23):DenF Tryz.prog Tryz.f127 [] args w K→Fn Tryz.prog 127 args w K :=
 fn_of_denF [] Tryz.func127 Tryz.isb127 Tryz.ok127 Tryz.ntmps127 hargs
-- ledger/ledgerref3.Compare
-- ledger/ledgerref22.copied
-- ledger/ledgerref22.FormWith
-- ledger/ledgerref22.joined
-- ledger/ledgerref22.answer
-- ledger/ledgerref22.near
-- (*ledger/ledgerref22.Witness).digest
-- ledger/ledgerref12.bytes
theorem Tryz.pl135:plainFn Tryz.prog 135=true:=by kernel_rfl
theorem Tryz.isb135:Tryz.f135.body.isSome=true:=by kernel_rfl
theorem Tryz.ok135:codeOk Tryz.prog Tryz.f135.ntmps [] (bodyOf Tryz.f135)=true:=by kernel_rfl
theorem Tryz.go135 {args:Array Value} {w:World} {K:Value→World→Prop} (hargs:args.size≤19):DenF Tryz.prog Tryz.f135 [] args w K→Fn Tryz.prog 135 args w K :=
 fn_of_denF [] Tryz.func135 Tryz.isb135 Tryz.ok135 Tryz.ntmps135 hargs
-- ledger/ledgerref22.Fork
-- ledger/ledgerref22.Left
-- ledger/ledgerref3.Parse
-- ledger/ledgerref3.Normal
-- ledger/ledgerref13.form
-- ledger/ledgerref13.start
-- ledger/ledgerref13.upward
-- ledger/ledgerref13.sides
-- ledger/ledgerref9.BranchText
theorem Tryz.pl144:plainFn Tryz.prog 144=true:=by kernel_rfl
theorem Tryz.isb144:Tryz.f144.body.isSome=true:=by kernel_rfl
theorem Tryz.ok144:codeOk Tryz.prog Tryz.f144.ntmps [] (bodyOf Tryz.f144)=true:=by kernel_rfl
theorem Tryz.go144 {args:Array Value} {w:World} {K:Value→World→Prop} (hargs:args.size≤37):DenF Tryz.prog Tryz.f144 [] args w K→Fn Tryz.prog 144 args w K :=
 fn_of_denF [] Tryz.func144 Tryz.isb144 Tryz.ok144 Tryz.ntmps144 hargs
-- ledger/ledgerref9.LeafText
theorem Tryz.pl145:plainFn Tryz.prog 145=true:=by kernel_rfl
theorem Tryz.isb145:Tryz.f145.body.isSome=true:=by kernel_rfl
theorem Tryz.ok145:codeOk Tryz.prog Tryz.f145.ntmps [] (bodyOf Tryz.f145)=true:=by kernel_rfl
theorem Tryz.go145 {args:Array Value} {w:World} {K:Value→World→Prop} (hargs:args.size≤33):DenF Tryz.prog Tryz.f145 [] args w K→Fn Tryz.prog 145 args w K :=
 fn_of_denF [] Tryz.func145 Tryz.isb145 Tryz.ok145 Tryz.ntmps145 hargs
-- slices.pdqsortCmpFunc[ledger/api.Key]
-- math/bits.Len
-- bytes.Compare
theorem Tryz.pl148:plainFn Tryz.prog 148=true:=by kernel_rfl
-- ledger/client.through
theorem Tryz.pl149:plainFn Tryz.prog 149=true:=by kernel_rfl
theorem Tryz.isb149:Tryz.f149.body.isSome=true:=by kernel_rfl
theorem Tryz.ok149:codeOk Tryz.prog Tryz.f149.ntmps [] (bodyOf Tryz.f149)=true:=by kernel_rfl
theorem Tryz.go149 {args:Array Value} {w:World} {K:Value→World→Prop} (hargs:args.size≤18):DenF Tryz.prog Tryz.f149 [] args w K→Fn Tryz.prog 149 args w K :=
 fn_of_denF [] Tryz.func149 Tryz.isb149 Tryz.ok149 Tryz.ntmps149 hargs
-- (*ledger/client.check).wide
theorem Tryz.pl150:plainFn Tryz.prog 150=true:=by kernel_rfl
theorem Tryz.isb150:Tryz.f150.body.isSome=true:=by kernel_rfl
theorem Tryz.ok150:codeOk Tryz.prog Tryz.f150.ntmps [] (bodyOf Tryz.f150)=true:=by kernel_rfl
theorem Tryz.go150 {args:Array Value} {w:World} {K:Value→World→Prop} (hargs:args.size≤15):DenF Tryz.prog Tryz.f150 [] args w K→Fn Tryz.prog 150 args w K :=
 fn_of_denF [] Tryz.func150 Tryz.isb150 Tryz.ok150 Tryz.ntmps150 hargs
-- (*ledger/client.check).read
theorem Tryz.pl151:plainFn Tryz.prog 151=true:=by kernel_rfl
theorem Tryz.isb151:Tryz.f151.body.isSome=true:=by kernel_rfl
theorem Tryz.ok151:codeOk Tryz.prog Tryz.f151.ntmps [] (bodyOf Tryz.f151)=true:=by kernel_rfl
theorem Tryz.go151 {args:Array Value} {w:World} {K:Value→World→Prop} (hargs:args.size≤16):DenF Tryz.prog Tryz.f151 [] args w K→Fn Tryz.prog 151 args w K :=
 fn_of_denF [] Tryz.func151 Tryz.isb151 Tryz.ok151 Tryz.ntmps151 hargs
-- (*ledger/client.check).tidy
theorem Tryz.pl152:plainFn Tryz.prog 152=true:=by kernel_rfl
theorem Tryz.isb152:Tryz.f152.body.isSome=true:=by kernel_rfl
theorem Tryz.ok152:codeOk Tryz.prog Tryz.f152.ntmps [14] (bodyOf Tryz.f152)=true:=by kernel_rfl
theorem Tryz.go152 {args:Array Value} {w:World} {K:Value→World→Prop} (hargs:args.size≤46):DenF Tryz.prog Tryz.f152 [14] args w K→Fn Tryz.prog 152 args w K :=
 fn_of_denF [14] Tryz.func152 Tryz.isb152 Tryz.ok152 Tryz.ntmps152 hargs
-- (*ledger/client.check).leads
theorem Tryz.pl153:plainFn Tryz.prog 153=true:=by kernel_rfl
theorem Tryz.isb153:Tryz.f153.body.isSome=true:=by kernel_rfl
theorem Tryz.ok153:codeOk Tryz.prog Tryz.f153.ntmps [] (bodyOf Tryz.f153)=true:=by kernel_rfl
theorem Tryz.go153 {args:Array Value} {w:World} {K:Value→World→Prop} (hargs:args.size≤19):DenF Tryz.prog Tryz.f153 [] args w K→Fn Tryz.prog 153 args w K :=
 fn_of_denF [] Tryz.func153 Tryz.isb153 Tryz.ok153 Tryz.ntmps153 hargs
-- ledger/node.LeafText
theorem Tryz.pl154:plainFn Tryz.prog 154=true:=by kernel_rfl
theorem Tryz.isb154:Tryz.f154.body.isSome=true:=by kernel_rfl
theorem Tryz.ok154:codeOk Tryz.prog Tryz.f154.ntmps [] (bodyOf Tryz.f154)=true:=by kernel_rfl
theorem Tryz.go154 {args:Array Value} {w:World} {K:Value→World→Prop} (hargs:args.size≤17):DenF Tryz.prog Tryz.f154 [] args w K→Fn Tryz.prog 154 args w K :=
 fn_of_denF [] Tryz.func154 Tryz.isb154 Tryz.ok154 Tryz.ntmps154 hargs
-- (*ledger/client.check).climb
theorem Tryz.pl155:plainFn Tryz.prog 155=true:=by kernel_rfl
theorem Tryz.isb155:Tryz.f155.body.isSome=true:=by kernel_rfl
theorem Tryz.ok155:codeOk Tryz.prog Tryz.f155.ntmps [10] (bodyOf Tryz.f155)=true:=by kernel_rfl
theorem Tryz.go155 {args:Array Value} {w:World} {K:Value→World→Prop} (hargs:args.size≤58):DenF Tryz.prog Tryz.f155 [10] args w K→Fn Tryz.prog 155 args w K :=
 fn_of_denF [10] Tryz.func155 Tryz.isb155 Tryz.ok155 Tryz.ntmps155 hargs
-- (*ledger/client.check).first
theorem Tryz.pl156:plainFn Tryz.prog 156=true:=by kernel_rfl
theorem Tryz.isb156:Tryz.f156.body.isSome=true:=by kernel_rfl
theorem Tryz.ok156:codeOk Tryz.prog Tryz.f156.ntmps [] (bodyOf Tryz.f156)=true:=by kernel_rfl
theorem Tryz.go156 {args:Array Value} {w:World} {K:Value→World→Prop} (hargs:args.size≤27):DenF Tryz.prog Tryz.f156 [] args w K→Fn Tryz.prog 156 args w K :=
 fn_of_denF [] Tryz.func156 Tryz.isb156 Tryz.ok156 Tryz.ntmps156 hargs
-- (*ledger/client.check).texts$1
theorem Tryz.pl157:plainFn Tryz.prog 157=true:=by kernel_rfl
theorem Tryz.isb157:Tryz.f157.body.isSome=true:=by kernel_rfl
theorem Tryz.ok157:codeOk Tryz.prog Tryz.f157.ntmps [1,2] (bodyOf Tryz.f157)=true:=by kernel_rfl
theorem Tryz.go157 {args:Array Value} {w:World} {K:Value→World→Prop} (hargs:args.size≤31):DenF Tryz.prog Tryz.f157 [1,2] args w K→Fn Tryz.prog 157 args w K :=
 fn_of_denF [1,2] Tryz.func157 Tryz.isb157 Tryz.ok157 Tryz.ntmps157 hargs
-- ledger/client.sides
theorem Tryz.pl158:plainFn Tryz.prog 158=true:=by kernel_rfl
theorem Tryz.isb158:Tryz.f158.body.isSome=true:=by kernel_rfl
theorem Tryz.ok158:codeOk Tryz.prog Tryz.f158.ntmps [2,3] (bodyOf Tryz.f158)=true:=by kernel_rfl
theorem Tryz.go158 {args:Array Value} {w:World} {K:Value→World→Prop} (hargs:args.size≤19):DenF Tryz.prog Tryz.f158 [2,3] args w K→Fn Tryz.prog 158 args w K :=
 fn_of_denF [2,3] Tryz.func158 Tryz.isb158 Tryz.ok158 Tryz.ntmps158 hargs
-- ledger/node.BranchText
theorem Tryz.pl159:plainFn Tryz.prog 159=true:=by kernel_rfl
theorem Tryz.isb159:Tryz.f159.body.isSome=true:=by kernel_rfl
theorem Tryz.ok159:codeOk Tryz.prog Tryz.f159.ntmps [] (bodyOf Tryz.f159)=true:=by kernel_rfl
theorem Tryz.go159 {args:Array Value} {w:World} {K:Value→World→Prop} (hargs:args.size≤24):DenF Tryz.prog Tryz.f159 [] args w K→Fn Tryz.prog 159 args w K :=
 fn_of_denF [] Tryz.func159 Tryz.isb159 Tryz.ok159 Tryz.ntmps159 hargs
-- ledger/batch.Common
theorem Tryz.pl160:plainFn Tryz.prog 160=true:=by kernel_rfl
theorem Tryz.isb160:Tryz.f160.body.isSome=true:=by kernel_rfl
theorem Tryz.ok160:codeOk Tryz.prog Tryz.f160.ntmps [] (bodyOf Tryz.f160)=true:=by kernel_rfl
theorem Tryz.go160 {args:Array Value} {w:World} {K:Value→World→Prop} (hargs:args.size≤28):DenF Tryz.prog Tryz.f160 [] args w K→Fn Tryz.prog 160 args w K :=
 fn_of_denF [] Tryz.func160 Tryz.isb160 Tryz.ok160 Tryz.ntmps160 hargs
-- (*ledger/ledgerref22.Witness).place
-- ledger/ledgerref22.Says
-- ledger/ledgerref1.Cut
theorem Tryz.pl163:plainFn Tryz.prog 163=true:=by kernel_rfl
theorem Tryz.isb163:Tryz.f163.body.isSome=true:=by kernel_rfl
theorem Tryz.ok163:codeOk Tryz.prog Tryz.f163.ntmps [] (bodyOf Tryz.f163)=true:=by kernel_rfl
theorem Tryz.go163 {args:Array Value} {w:World} {K:Value→World→Prop} (hargs:args.size≤16):DenF Tryz.prog Tryz.f163 [] args w K→Fn Tryz.prog 163 args w K :=
 fn_of_denF [] Tryz.func163 Tryz.isb163 Tryz.ok163 Tryz.ntmps163 hargs
-- ledger/ledgerref9.within
theorem Tryz.pl164:plainFn Tryz.prog 164=true:=by kernel_rfl
theorem Tryz.isb164:Tryz.f164.body.isSome=true:=by kernel_rfl
theorem Tryz.ok164:codeOk Tryz.prog Tryz.f164.ntmps [] (bodyOf Tryz.f164)=true:=by kernel_rfl
theorem Tryz.go164 {args:Array Value} {w:World} {K:Value→World→Prop} (hargs:args.size≤16):DenF Tryz.prog Tryz.f164 [] args w K→Fn Tryz.prog 164 args w K :=
 fn_of_denF [] Tryz.func164 Tryz.isb164 Tryz.ok164 Tryz.ntmps164 hargs
-- ledger/ledgerref9.bit
theorem Tryz.pl165:plainFn Tryz.prog 165=true:=by kernel_rfl
theorem Tryz.isb165:Tryz.f165.body.isSome=true:=by kernel_rfl
theorem Tryz.ok165:codeOk Tryz.prog Tryz.f165.ntmps [] (bodyOf Tryz.f165)=true:=by kernel_rfl
theorem Tryz.go165 {args:Array Value} {w:World} {K:Value→World→Prop} (hargs:args.size≤22):DenF Tryz.prog Tryz.f165 [] args w K→Fn Tryz.prog 165 args w K :=
 fn_of_denF [] Tryz.func165 Tryz.isb165 Tryz.ok165 Tryz.ntmps165 hargs
-- ledger/ledgerref3.Bit
theorem Tryz.pl166:plainFn Tryz.prog 166=true:=by kernel_rfl
theorem Tryz.isb166:Tryz.f166.body.isSome=true:=by kernel_rfl
theorem Tryz.ok166:codeOk Tryz.prog Tryz.f166.ntmps [] (bodyOf Tryz.f166)=true:=by kernel_rfl
theorem Tryz.go166 {args:Array Value} {w:World} {K:Value→World→Prop} (hargs:args.size≤28):DenF Tryz.prog Tryz.f166 [] args w K→Fn Tryz.prog 166 args w K :=
 fn_of_denF [] Tryz.func166 Tryz.isb166 Tryz.ok166 Tryz.ntmps166 hargs
-- ledger/batch.take
-- ledger/batch.repeated
theorem Tryz.pl168:plainFn Tryz.prog 168=true:=by kernel_rfl
theorem Tryz.isb168:Tryz.f168.body.isSome=true:=by kernel_rfl
theorem Tryz.ok168:codeOk Tryz.prog Tryz.f168.ntmps [] (bodyOf Tryz.f168)=true:=by kernel_rfl
theorem Tryz.go168 {args:Array Value} {w:World} {K:Value→World→Prop} (hargs:args.size≤30):DenF Tryz.prog Tryz.f168 [] args w K→Fn Tryz.prog 168 args w K :=
 fn_of_denF [] Tryz.func168 Tryz.isb168 Tryz.ok168 Tryz.ntmps168 hargs
-- ledger/digest.Sum
theorem Tryz.pl169:plainFn Tryz.prog 169=true:=by kernel_rfl
theorem Tryz.isb169:Tryz.f169.body.isSome=true:=by kernel_rfl
theorem Tryz.ok169:codeOk Tryz.prog Tryz.f169.ntmps [] (bodyOf Tryz.f169)=true:=by kernel_rfl
theorem Tryz.go169 {args:Array Value} {w:World} {K:Value→World→Prop} (hargs:args.size≤9):DenF Tryz.prog Tryz.f169 [] args w K→Fn Tryz.prog 169 args w K :=
 fn_of_denF [] Tryz.func169 Tryz.isb169 Tryz.ok169 Tryz.ntmps169 hargs
-- ledger/node.within
theorem Tryz.pl170:plainFn Tryz.prog 170=true:=by kernel_rfl
theorem Tryz.isb170:Tryz.f170.body.isSome=true:=by kernel_rfl
theorem Tryz.ok170:codeOk Tryz.prog Tryz.f170.ntmps [] (bodyOf Tryz.f170)=true:=by kernel_rfl
theorem Tryz.go170 {args:Array Value} {w:World} {K:Value→World→Prop} (hargs:args.size≤12):DenF Tryz.prog Tryz.f170 [] args w K→Fn Tryz.prog 170 args w K :=
 fn_of_denF [] Tryz.func170 Tryz.isb170 Tryz.ok170 Tryz.ntmps170 hargs
-- (*ledger/witness.reader).take
theorem Tryz.pl171:plainFn Tryz.prog 171=true:=by kernel_rfl
theorem Tryz.isb171:Tryz.f171.body.isSome=true:=by kernel_rfl
theorem Tryz.ok171:codeOk Tryz.prog Tryz.f171.ntmps [] (bodyOf Tryz.f171)=true:=by kernel_rfl
theorem Tryz.go171 {args:Array Value} {w:World} {K:Value→World→Prop} (hargs:args.size≤30):DenF Tryz.prog Tryz.f171 [] args w K→Fn Tryz.prog 171 args w K :=
 fn_of_denF [] Tryz.func171 Tryz.isb171 Tryz.ok171 Tryz.ntmps171 hargs
-- (*ledger/witness.reader).answer
theorem Tryz.pl172:plainFn Tryz.prog 172=true:=by kernel_rfl
theorem Tryz.isb172:Tryz.f172.body.isSome=true:=by kernel_rfl
theorem Tryz.ok172:codeOk Tryz.prog Tryz.f172.ntmps [] (bodyOf Tryz.f172)=true:=by kernel_rfl
theorem Tryz.go172 {args:Array Value} {w:World} {K:Value→World→Prop} (hargs:args.size≤44):DenF Tryz.prog Tryz.f172 [] args w K→Fn Tryz.prog 172 args w K :=
 fn_of_denF [] Tryz.func172 Tryz.isb172 Tryz.ok172 Tryz.ntmps172 hargs
-- (*ledger/witness.reader).neighbours
theorem Tryz.pl173:plainFn Tryz.prog 173=true:=by kernel_rfl
theorem Tryz.isb173:Tryz.f173.body.isSome=true:=by kernel_rfl
theorem Tryz.ok173:codeOk Tryz.prog Tryz.f173.ntmps [12,13] (bodyOf Tryz.f173)=true:=by kernel_rfl
theorem Tryz.go173 {args:Array Value} {w:World} {K:Value→World→Prop} (hargs:args.size≤107):DenF Tryz.prog Tryz.f173 [12,13] args w K→Fn Tryz.prog 173 args w K :=
 fn_of_denF [12,13] Tryz.func173 Tryz.isb173 Tryz.ok173 Tryz.ntmps173 hargs
-- (*ledger/proof.reader).number
theorem Tryz.pl174:plainFn Tryz.prog 174=true:=by kernel_rfl
theorem Tryz.isb174:Tryz.f174.body.isSome=true:=by kernel_rfl
theorem Tryz.ok174:codeOk Tryz.prog Tryz.f174.ntmps [] (bodyOf Tryz.f174)=true:=by kernel_rfl
theorem Tryz.go174 {args:Array Value} {w:World} {K:Value→World→Prop} (hargs:args.size≤18):DenF Tryz.prog Tryz.f174 [] args w K→Fn Tryz.prog 174 args w K :=
 fn_of_denF [] Tryz.func174 Tryz.isb174 Tryz.ok174 Tryz.ntmps174 hargs
-- math/bits.OnesCount8
theorem Tryz.pl175:plainFn Tryz.prog 175=true:=by kernel_rfl
theorem Tryz.isb175:Tryz.f175.body.isSome=true:=by kernel_rfl
theorem Tryz.ok175:codeOk Tryz.prog Tryz.f175.ntmps [] (bodyOf Tryz.f175)=true:=by kernel_rfl
theorem Tryz.go175 {args:Array Value} {w:World} {K:Value→World→Prop} (hargs:args.size≤6):DenF Tryz.prog Tryz.f175 [] args w K→Fn Tryz.prog 175 args w K :=
 fn_of_denF [] Tryz.func175 Tryz.isb175 Tryz.ok175 Tryz.ntmps175 hargs
-- slices.Concat[[]byte,byte]
theorem Tryz.pl176:plainFn Tryz.prog 176=true:=by kernel_rfl
theorem Tryz.isb176:Tryz.f176.body.isSome=true:=by kernel_rfl
theorem Tryz.ok176:codeOk Tryz.prog Tryz.f176.ntmps [] (bodyOf Tryz.f176)=true:=by kernel_rfl
theorem Tryz.go176 {args:Array Value} {w:World} {K:Value→World→Prop} (hargs:args.size≤36):DenF Tryz.prog Tryz.f176 [] args w K→Fn Tryz.prog 176 args w K :=
 fn_of_denF [] Tryz.func176 Tryz.isb176 Tryz.ok176 Tryz.ntmps176 hargs
-- ledger/ledgerref12.Neighbours
theorem Tryz.pl177:plainFn Tryz.prog 177=true:=by kernel_rfl
theorem Tryz.isb177:Tryz.f177.body.isSome=true:=by kernel_rfl
theorem Tryz.ok177:codeOk Tryz.prog Tryz.f177.ntmps [] (bodyOf Tryz.f177)=true:=by kernel_rfl
theorem Tryz.go177 {args:Array Value} {w:World} {K:Value→World→Prop} (hargs:args.size≤35):DenF Tryz.prog Tryz.f177 [] args w K→Fn Tryz.prog 177 args w K :=
 fn_of_denF [] Tryz.func177 Tryz.isb177 Tryz.ok177 Tryz.ntmps177 hargs
-- ledger/ledgerref12.digest
theorem Tryz.pl178:plainFn Tryz.prog 178=true:=by kernel_rfl
theorem Tryz.isb178:Tryz.f178.body.isSome=true:=by kernel_rfl
theorem Tryz.ok178:codeOk Tryz.prog Tryz.f178.ntmps [4] (bodyOf Tryz.f178)=true:=by kernel_rfl
theorem Tryz.go178 {args:Array Value} {w:World} {K:Value→World→Prop} (hargs:args.size≤91):DenF Tryz.prog Tryz.f178 [4] args w K→Fn Tryz.prog 178 args w K :=
 fn_of_denF [4] Tryz.func178 Tryz.isb178 Tryz.ok178 Tryz.ntmps178 hargs
-- ledger/ledgerref12.set
theorem Tryz.pl179:plainFn Tryz.prog 179=true:=by kernel_rfl
theorem Tryz.isb179:Tryz.f179.body.isSome=true:=by kernel_rfl
theorem Tryz.ok179:codeOk Tryz.prog Tryz.f179.ntmps [] (bodyOf Tryz.f179)=true:=by kernel_rfl
theorem Tryz.go179 {args:Array Value} {w:World} {K:Value→World→Prop} (hargs:args.size≤44):DenF Tryz.prog Tryz.f179 [] args w K→Fn Tryz.prog 179 args w K :=
 fn_of_denF [] Tryz.func179 Tryz.isb179 Tryz.ok179 Tryz.ntmps179 hargs
-- (*ledger/ledgerref22.Witness).text
-- (*ledger/ledgerref22.Witness).climbed
-- ledger/ledgerref22.common
-- ledger/ledgerref3.one
-- ledger/ledgerref3.twice
-- ledger/ledgerref3.wrong
-- ledger/ledgerref3.sorted
-- ledger/ledgerref13.tidy
-- ledger/ledgerref9.Empty
-- slices.insertionSortCmpFunc[ledger/api.Key]
-- slices.heapSortCmpFunc[ledger/api.Key]
-- slices.breakPatternsCmpFunc[ledger/api.Key]
-- slices.choosePivotCmpFunc[ledger/api.Key]
-- slices.reverseRangeCmpFunc[ledger/api.Key]
-- slices.partialInsertionSortCmpFunc[ledger/api.Key]
-- slices.partitionEqualCmpFunc[ledger/api.Key]
-- slices.partitionCmpFunc[ledger/api.Key]
-- math/bits.Len32
-- math/bits.Len64
-- ledger/client.bitOf
theorem Tryz.pl200:plainFn Tryz.prog 200=true:=by kernel_rfl
theorem Tryz.isb200:Tryz.f200.body.isSome=true:=by kernel_rfl
theorem Tryz.ok200:codeOk Tryz.prog Tryz.f200.ntmps [] (bodyOf Tryz.f200)=true:=by kernel_rfl
theorem Tryz.go200 {args:Array Value} {w:World} {K:Value→World→Prop} (hargs:args.size≤17):DenF Tryz.prog Tryz.f200 [] args w K→Fn Tryz.prog 200 args w K :=
 fn_of_denF [] Tryz.func200 Tryz.isb200 Tryz.ok200 Tryz.ntmps200 hargs
-- (*ledger/client.check).bare
theorem Tryz.pl201:plainFn Tryz.prog 201=true:=by kernel_rfl
theorem Tryz.isb201:Tryz.f201.body.isSome=true:=by kernel_rfl
theorem Tryz.ok201:codeOk Tryz.prog Tryz.f201.ntmps [] (bodyOf Tryz.f201)=true:=by kernel_rfl
theorem Tryz.go201 {args:Array Value} {w:World} {K:Value→World→Prop} (hargs:args.size≤51):DenF Tryz.prog Tryz.f201 [] args w K→Fn Tryz.prog 201 args w K :=
 fn_of_denF [] Tryz.func201 Tryz.isb201 Tryz.ok201 Tryz.ntmps201 hargs
-- (*ledger/client.check).leads$1
theorem Tryz.pl202:plainFn Tryz.prog 202=true:=by kernel_rfl
theorem Tryz.isb202:Tryz.f202.body.isSome=true:=by kernel_rfl
theorem Tryz.ok202:codeOk Tryz.prog Tryz.f202.ntmps [] (bodyOf Tryz.f202)=true:=by kernel_rfl
theorem Tryz.go202 {args:Array Value} {w:World} {K:Value→World→Prop} (hargs:args.size≤6):DenF Tryz.prog Tryz.f202 [] args w K→Fn Tryz.prog 202 args w K :=
 fn_of_denF [] Tryz.func202 Tryz.isb202 Tryz.ok202 Tryz.ntmps202 hargs
-- math/bits.LeadingZeros8
theorem Tryz.pl203:plainFn Tryz.prog 203=true:=by kernel_rfl
theorem Tryz.isb203:Tryz.f203.body.isSome=true:=by kernel_rfl
theorem Tryz.ok203:codeOk Tryz.prog Tryz.f203.ntmps [] (bodyOf Tryz.f203)=true:=by kernel_rfl
theorem Tryz.go203 {args:Array Value} {w:World} {K:Value→World→Prop} (hargs:args.size≤6):DenF Tryz.prog Tryz.f203 [] args w K→Fn Tryz.prog 203 args w K :=
 fn_of_denF [] Tryz.func203 Tryz.isb203 Tryz.ok203 Tryz.ntmps203 hargs
-- (*ledger/digest.Hasher).Write
theorem Tryz.pl204:plainFn Tryz.prog 204=true:=by kernel_rfl
theorem Tryz.isb204:Tryz.f204.body.isSome=true:=by kernel_rfl
theorem Tryz.ok204:codeOk Tryz.prog Tryz.f204.ntmps [] (bodyOf Tryz.f204)=true:=by kernel_rfl
theorem Tryz.go204 {args:Array Value} {w:World} {K:Value→World→Prop} (hargs:args.size≤73):DenF Tryz.prog Tryz.f204 [] args w K→Fn Tryz.prog 204 args w K :=
 fn_of_denF [] Tryz.func204 Tryz.isb204 Tryz.ok204 Tryz.ntmps204 hargs
-- (*ledger/digest.Hasher).Sum
theorem Tryz.pl205:plainFn Tryz.prog 205=true:=by kernel_rfl
theorem Tryz.isb205:Tryz.f205.body.isSome=true:=by kernel_rfl
theorem Tryz.ok205:codeOk Tryz.prog Tryz.f205.ntmps [] (bodyOf Tryz.f205)=true:=by kernel_rfl
theorem Tryz.go205 {args:Array Value} {w:World} {K:Value→World→Prop} (hargs:args.size≤76):DenF Tryz.prog Tryz.f205 [] args w K→Fn Tryz.prog 205 args w K :=
 fn_of_denF [] Tryz.func205 Tryz.isb205 Tryz.ok205 Tryz.ntmps205 hargs
-- slices.Grow[[]byte,byte]
theorem Tryz.pl206:plainFn Tryz.prog 206=true:=by kernel_rfl
theorem Tryz.isb206:Tryz.f206.body.isSome=true:=by kernel_rfl
theorem Tryz.ok206:codeOk Tryz.prog Tryz.f206.ntmps [] (bodyOf Tryz.f206)=true:=by kernel_rfl
theorem Tryz.go206 {args:Array Value} {w:World} {K:Value→World→Prop} (hargs:args.size≤27):DenF Tryz.prog Tryz.f206 [] args w K→Fn Tryz.prog 206 args w K :=
 fn_of_denF [] Tryz.func206 Tryz.isb206 Tryz.ok206 Tryz.ntmps206 hargs
-- ledger/ledgerref3.Common
theorem Tryz.pl207:plainFn Tryz.prog 207=true:=by kernel_rfl
theorem Tryz.isb207:Tryz.f207.body.isSome=true:=by kernel_rfl
theorem Tryz.ok207:codeOk Tryz.prog Tryz.f207.ntmps [] (bodyOf Tryz.f207)=true:=by kernel_rfl
theorem Tryz.go207 {args:Array Value} {w:World} {K:Value→World→Prop} (hargs:args.size≤22):DenF Tryz.prog Tryz.f207 [] args w K→Fn Tryz.prog 207 args w K :=
 fn_of_denF [] Tryz.func207 Tryz.isb207 Tryz.ok207 Tryz.ntmps207 hargs
-- (*ledger/ledgerref22.Witness).taken
-- (*ledger/ledgerref22.Witness).near
-- (*ledger/ledgerref22.Witness).base
-- ledger/ledgerref3.bytes
-- ledger/ledgerref3.plain
-- ledger/ledgerref3.merged
-- slices.siftDownCmpFunc[ledger/api.Key]
-- slices.nextPowerOfTwo
-- (*slices.xorshift).Next
-- slices.medianAdjacentCmpFunc[ledger/api.Key]
-- slices.medianCmpFunc[ledger/api.Key]
-- math/bits.Len8
theorem Tryz.pl219:plainFn Tryz.prog 219=true:=by kernel_rfl
theorem Tryz.isb219:Tryz.f219.body.isSome=true:=by kernel_rfl
theorem Tryz.ok219:codeOk Tryz.prog Tryz.f219.ntmps [] (bodyOf Tryz.f219)=true:=by kernel_rfl
theorem Tryz.go219 {args:Array Value} {w:World} {K:Value→World→Prop} (hargs:args.size≤6):DenF Tryz.prog Tryz.f219 [] args w K→Fn Tryz.prog 219 args w K :=
 fn_of_denF [] Tryz.func219 Tryz.isb219 Tryz.ok219 Tryz.ntmps219 hargs
-- (*ledger/digest.Hasher).step
theorem Tryz.pl220:plainFn Tryz.prog 220=true:=by kernel_rfl
theorem Tryz.isb220:Tryz.f220.body.isSome=true:=by kernel_rfl
theorem Tryz.ok220:codeOk Tryz.prog Tryz.f220.ntmps [17] (bodyOf Tryz.f220)=true:=by kernel_rfl
theorem Tryz.go220 {args:Array Value} {w:World} {K:Value→World→Prop} (hargs:args.size≤231):DenF Tryz.prog Tryz.f220 [17] args w K→Fn Tryz.prog 220 args w K :=
 fn_of_denF [17] Tryz.func220 Tryz.isb220 Tryz.ok220 Tryz.ntmps220 hargs
-- slices.order2CmpFunc[ledger/api.Key]
-- math/bits.RotateLeft32
theorem Tryz.pl222:plainFn Tryz.prog 222=true:=by kernel_rfl
theorem Tryz.isb222:Tryz.f222.body.isSome=true:=by kernel_rfl
theorem Tryz.ok222:codeOk Tryz.prog Tryz.f222.ntmps [] (bodyOf Tryz.f222)=true:=by kernel_rfl
theorem Tryz.go222 {args:Array Value} {w:World} {K:Value→World→Prop} (hargs:args.size≤17):DenF Tryz.prog Tryz.f222 [] args w K→Fn Tryz.prog 222 args w K :=
 fn_of_denF [] Tryz.func222 Tryz.isb222 Tryz.ok222 Tryz.ntmps222 hargs
end Go.V
end
