/- Helpers. -/
import Derived.Test.YtppmpdjlmgfdkaaGreatDoorCards
import Derived.Test.YtppmpdjlmgfdkaaGreatDoorTie
import Derived.Test.YtppmpdjlmgfdkaaGreatDoorB25
import Derived.Test.YtppmpdjlmgfdkaaGreatDoorB19
set_option linter.all false
set_option maxRecDepth 100000
set_option maxHeartbeats 8000000
namespace Go.V
open Go.Proofs.Tryz Go.V.Tryz
open Go.Proofs Sha
def Z8:List Int:=[1779033703,3144134277,1013904242,2773480762,1359893119,2600822924,528734635,1541459225]
def Z64:List Int:=[1116352408,1899447441,3049323471,3921009573,961987163,1508970993,2453635748,2870763221,3624381080,310598401,607225278,1426881987,1925078388,2162078206,2614888103,3248222580,3835390401,4022224774,264347078,604807628,770255983,1249150122,1555081692,1996064986,2554220882,2821834349,2952996808,3210313671,3336571891,3584528711,113926993,338241895,666307205,773529912,1294757372,1396182291,1695183700,1986661051,2177026350,2456956037,2730485921,2820302411,3259730800,3345764771,3516065817,3600352804,4094571909,275423344,430227734,506948616,659060556,883997877,958139571,1322822218,1537002063,1747873779,1955562222,2024104815,2227730452,2361852424,2428436474,2756734187,3204031479,3329325298]
def Z33:List Int:=[1,0,0,0,0,0,1,0,0,1,1,0,0,0,0,0,1,0,0,0,1,1,1,0,1,1,0,1,1,0,1,1,1]
def laidT : List (String × DataW Unit) := [("ledger/ledgerref1.first", Lib.tabData .u32 Z8), ("ledger/ledgerref1.consts", Lib.tabData .u32 Z64), ("ledger/ledgerref2.divisor", Lib.tabData .u8 Z33), ("ledger/digest.begin", Lib.tabData .u32 Z8), ("ledger/digest.round", Lib.tabData .u32 Z64)]
theorem z8_at:∀ i,i<8->i<Z8.length/\Z8.getD i 0=((init.list.getD i 0).toNat:Int):=by decide +kernel
theorem z64_at:∀ i,i<64->i<Z64.length/\Z64.getD i 0=((ktab.getD i 0).toNat:Int):=by decide +kernel
theorem z33_at:∀ i,i<33->i<Z33.length/\Z33.getD i 0=((R.b2 (R.divL.getD i false)).toNat:Int):=by decide +kernel
theorem tabs_of {W:World}(h:laidMet prog laidT W):Tabs W/\R.DivT W:=by
 have B:prog.underlying 250=some (.array 8 34):=x8
 have A:prog.underlying 251=some (.array 64 34):=x8
 have I:prog.underlying 34=some (.int .u32):=x8
 have E:prog.underlying 256=some (.array 33 5):=x8
 have T:prog.underlying 5=some (.int .u8):=x8
 have U:prog.cellsOf 5=1:=x8
 have J:prog.cellsOf 256=33:=x8
 have L : prog.globalNamed "ledger/ledgerref2.divisor" = some 1 := by kernel_rfl
 have V:(prog.globals[1]?).map (·.type)=some 256:=x8
 have c1:prog.cellsOf 34=1:=x8
 have M:prog.cellsOf 250=8:=x8
 have H:prog.cellsOf 251=64:=x8
 have n1 : prog.globalNamed "ledger/ledgerref1.first" = some 0 := by kernel_rfl
 have n2 : prog.globalNamed "ledger/ledgerref1.consts" = some 2 := by kernel_rfl
 have N : prog.globalNamed "ledger/digest.begin" = some 3 := by kernel_rfl
 have O : prog.globalNamed "ledger/digest.round" = some 4 := by kernel_rfl
 have Y:(prog.globals[0]?).map (·.type)=some 250:=x8
 have Z:(prog.globals[2]?).map (·.type)=some 251:=x8
 have t3:(prog.globals[3]?).map (·.type)=some 250:=x8
 have t4:(prog.globals[4]?).map (·.type)=some 251:=x8
 refine⟨?_,fun i hi=>?_⟩
 case refine_2 =>
  obtain⟨h1,h2⟩:=z33_at i hi;have:=(qVh ((Lib.tabIs_of_head L V E T U J h.tail.tail).cell L i h1)).2;simp only at this;rw[this,h2]
 exact⟨tab_cells (Lib.tabIs_of_head n2 Z A I c1 H h.tail) n2 z64_at,tab_cells (Lib.tabIs_of_head O t4 A I c1 H h.tail.tail.tail.tail) O z64_at,
  tab_cells (Lib.tabIs_of_head n1 Y B I c1 M h) n1 z8_at,tab_cells (Lib.tabIs_of_head N t3 B I c1 M h.tail.tail.tail) N z8_at⟩
def wordsT (l:List Int):Array Value:=(l.map fun n=>Value.int .u32 n).toArray
def bytesT (l:List Int):Array Value:=(l.map fun n=>Value.int .u8 n).toArray
def layT (vs:Array Value):Obj->Obj
 | .cells _ t A=>.cells vs t A
 | o=>o
noncomputable def laidW (A:Os) (args:Array Value):World :=
 { World.holding prog A ⟨#[],args,[]⟩ with heap:=((((((World.holding prog A ⟨#[],args,[]⟩).heap.modify 0 (layT (wordsT Z8))).modify 2 (layT (wordsT Z64))).modify 1 (layT (bytesT Z33))).modify 3 (layT (wordsT Z8))).modify 4 (layT (wordsT Z64))) }
theorem Fr.same_old {W A:World}(fr:No W A){p:List MemPlace}(B:∀ x ∈ p,x.block<W.heap.size):∀ x ∈ p,W.sameAt A x:=fun x H=>by
 have E:=fr.blk _ (B x H) id
 cases x with
 | cell b o=>simp only[World.sameAt,World.cell?];rw[show A.heap[b]?=W.heap[b]? from E]
 | map b=>exact E
end Go.V
