/- Helpers. -/
import Derived.Shelf.SlSortCmp.WholeK
import Derived.Test.YtmenaeggoakppaaGreatDoorProg
set_option linter.all false
set_option maxRecDepth 100000
set_option maxHeartbeats 8000000
section
namespace Go.Proofs
open Go.Shelf
def Tryz.sortK_ren:Go.Shelf.Ren:=⟨fun | 6=>90 | 15=>147 | 14=>146 | 28=>197 | 29=>198 | 20=>189 | 21=>190 | 22=>191 | 23=>192 | 24=>193 | 25=>194 | 26=>195 | 27=>196 | 46=>214 | 47=>215 | 48=>216 | 49=>217 | 50=>218 | 57=>221 | n=>n,fun | 22=>24 | 24=>34 | 25=>162 | 3=>3 | 39=>104 | 0=>0 | 53=>99 | 55=>168 | 4=>4 | 46=>276 | 45=>275 | 50=>280 | 5=>5 | 9=>9 | 66=>294 | 70=>298 | 76=>302 | 77=>208 | n=>n,fun | n=>n⟩
theorem Tryz.sortK:Go.Proofs.SlLaysF0.n6 prog Tryz.sortK_ren:={
 mixed:=by kernel_rfl
 f6:=⟨Tryz.f90.name,by decide,Tryz.func90.trans (congrArg some (by kernel_rfl))⟩
 f14:=⟨Tryz.f146.name,by decide,Tryz.func146.trans (congrArg some (by kernel_rfl))⟩
 f15:=Tryz.func147.trans (congrArg some (by kernel_rfl))
 f20:=⟨Tryz.f189.name,by decide,Tryz.func189.trans (congrArg some (by kernel_rfl))⟩
 f21:=⟨Tryz.f190.name,by decide,Tryz.func190.trans (congrArg some (by kernel_rfl))⟩
 f22:=⟨Tryz.f191.name,by decide,Tryz.func191.trans (congrArg some (by kernel_rfl))⟩
 f23:=⟨Tryz.f192.name,by decide,Tryz.func192.trans (congrArg some (by kernel_rfl))⟩
 f24:=⟨Tryz.f193.name,by decide,Tryz.func193.trans (congrArg some (by kernel_rfl))⟩
 f25:=⟨Tryz.f194.name,by decide,Tryz.func194.trans (congrArg some (by kernel_rfl))⟩
 f26:=⟨Tryz.f195.name,by decide,Tryz.func195.trans (congrArg some (by kernel_rfl))⟩
 f27:=⟨Tryz.f196.name,by decide,Tryz.func196.trans (congrArg some (by kernel_rfl))⟩
 f28:=Tryz.func197.trans (congrArg some (by kernel_rfl))
 f29:=Tryz.func198.trans (congrArg some (by kernel_rfl))
 f46:=⟨Tryz.f214.name,by decide,Tryz.func214.trans (congrArg some (by kernel_rfl))⟩
 f47:=Tryz.func215.trans (congrArg some (by kernel_rfl))
 f48:=Tryz.func216.trans (congrArg some (by kernel_rfl))
 f49:=⟨Tryz.f217.name,by decide,Tryz.func217.trans (congrArg some (by kernel_rfl))⟩
 f50:=⟨Tryz.f218.name,by decide,Tryz.func218.trans (congrArg some (by kernel_rfl))⟩
 f57:=⟨Tryz.f221.name,by decide,Tryz.func221.trans (congrArg some (by kernel_rfl))⟩
 t0:=Tryz.underlying0
 a0:=Tryz.isAgg0
 z0:=Tryz.sizeOf0
 v0:=Tryz.zeroValue0
 t3:=Tryz.underlying3
 a3:=Tryz.isAgg3
 z3:=Tryz.sizeOf3
 v3:=Tryz.zeroValue3
 t4:=Tryz.underlying4
 a4:=Tryz.isAgg4
 z4:=Tryz.sizeOf4
 v4:=Tryz.zeroValue4
 t5:=Tryz.underlying5
 a5:=Tryz.isAgg5
 z5:=Tryz.sizeOf5
 v5:=Tryz.zeroValue5
 t9:=Tryz.underlying9
 a9:=Tryz.isAgg9
 z9:=Tryz.sizeOf9
 v9:=Tryz.zeroValue9
 t22:=Tryz.underlying24
 a22:=Tryz.isAgg24
 z22:=Tryz.sizeOf24
 v22:=Tryz.zeroValue24
 t25:=Tryz.underlying162
 a25:=Tryz.isAgg162
 z25:=Tryz.sizeOf162
 v25:=Tryz.zeroValue162
 t39:=Tryz.underlying104
 a39:=Tryz.isAgg104
 z39:=Tryz.sizeOf104
 v39:=Tryz.zeroValue104
 t45:=Tryz.underlying275
 a45:=Tryz.isAgg275
 z45:=Tryz.sizeOf275
 v45:=Tryz.zeroValue275
 t46:=Tryz.underlying276
 a46:=Tryz.isAgg276
 z46:=Tryz.sizeOf276
 v46:=Tryz.zeroValue276
 t50:=Tryz.underlying280
 a50:=Tryz.isAgg280
 z50:=Tryz.sizeOf280
 v50:=Tryz.zeroValue280
 t53:=Tryz.underlying99
 a53:=Tryz.isAgg99
 z53:=Tryz.sizeOf99
 v53:=Tryz.zeroValue99
 t55:=Tryz.underlying168
 a55:=Tryz.isAgg168
 z55:=Tryz.sizeOf168
 v55:=Tryz.zeroValue168
 t66:=Tryz.underlying294
 a66:=Tryz.isAgg294
 z66:=Tryz.sizeOf294
 v66:=Tryz.zeroValue294
 t70:=Tryz.underlying298
 a70:=Tryz.isAgg298
 z70:=Tryz.sizeOf298
 v70:=Tryz.zeroValue298
 t76:=Tryz.underlying302
 a76:=Tryz.isAgg302
 z76:=Tryz.sizeOf302
 v76:=Tryz.zeroValue302
 t77:=Tryz.underlying208
 a77:=Tryz.isAgg208
 z77:=Tryz.sizeOf208
 v77:=Tryz.zeroValue208 }
end Go.Proofs
end
