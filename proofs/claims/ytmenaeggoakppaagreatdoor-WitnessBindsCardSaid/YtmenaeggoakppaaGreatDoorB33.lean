/-
 Helpers: KnowE.
-/
import Derived.Test.YtmenaeggoakppaaGreatDoorB32
set_option linter.all false
section
namespace Go.V
open Go.Proofs Sha
set_option maxRecDepth 100000
namespace R
/-- a proof's cells -/
abbrev prC (f:Bool) (vv:Value) (bits:Bs) (sv:Value):List Value:=.bool f::vv::(bits.map u8++[sv])
theorem prC_len {f:Bool} {vv sv:Value} {bits:Bs} (h:bits.length=32):(prC f vv bits sv).length=35:=by simp[h]
theorem prC_one {f:Bool} {vv sv:Value} {bits:Bs} (h1:one vv=true) (h2:one sv=true):(prC f vv bits sv).toArray.all one=true:=by
 rw[← Array.all_toList]
 simp only[prC,List.all_cons,List.all_append,u8s_one,h1,h2,List.all_nil,Bool.and_true,Bool.true_and];rfl
def v2I (w0 w4:World) (esv:Value) (h:Nat) (n:Nat) (vs:List Value) (w:World):Prop :=
 ∃ (i:Nat),vs=[.int .i64 (h:Nat),pt w0.heap.size 0,pt (w0.heap.size+1) 0,pt (w0.heap.size+2) 0,.int .u8 ((2 ^ i:Nat):Int),.int .i64 (i:Nat)]∧i≤h % 8∧n=h % 8 - i∧w=w4
theorem prC_set {f:Bool} {vv sv:Value} {bits:Bs} (i:Nat) (x:Byte):((prC f vv bits sv).toArray.setIfInBounds (2+i) (u8 x))=(if i<bits.length then (prC f vv (bits.set i x) sv).toArray else (prC f vv bits sv).toArray.setIfInBounds (2+i) (u8 x)):=by
 split
 ·rename_i h
  apply Array.toList_inj.1
  rw[Array.toList_setIfInBounds,List.toList_toArray,List.toList_toArray,show 2+i=i+1+1 by omega]
  simp only[prC,List.set_cons_succ]
  rw[List.set_append_left _ _ (by simpa using h)]
  simp
 ·rfl
theorem prC_sums {f:Bool} {vv sv sv':Value} {bits:Bs} (h:bits.length=32):(prC f vv bits sv).toArray.setIfInBounds 34 sv'=(prC f vv bits sv').toArray:=by
 apply Array.toList_inj.1
 rw[Array.toList_setIfInBounds,List.toList_toArray,List.toList_toArray]
 simp only[prC,List.set_cons_succ]
 rw[List.set_append_right _ _ (by simp[h])]
 simp[h]
abbrev prZ:Array Value:=(#[.bool false,.slice Option.none 0 0]:Array Value)++Array.replicate 32 (.int .u8 0)++#[.slice Option.none 0 0]
def setP (wd:Int) (bits:Bs) (h:Nat) (d:Bs):Bs × List Bs:=if d=emptD wd h then (bits,[]) else (bits.set (h / 8) (bits.getD (h / 8) 0 ||| BitVec.ofNat 8 (2 ^ (h % 8))),[d])
set_option maxHeartbeats 1000000 in
theorem set12 (w0 : World) (wd : Int) {esv : Value} (he : RdD w0 esv (empts wd 257)) {f : Bool} {vv : Value} {bits : Bs} (hbl : bits.length = 32) (hvo : one vv = true) {h : Nat} (hh : h < 256) (hfree : (bits.getD (h / 8) 0).getLsbD (h % 8) = false) {d : Bs} (hd : d.length = 32) :
    Fn Tryz.prog 179 #[.agg (prC f vv bits (.slice Option.none 0 0)).toArray,esv,.int .i64 (h : Nat),dg d] w0 fun v w' => No w0 w' ∧ ∃ sv,v = .agg (prC f vv (setP wd bits h d).1 sv).toArray ∧ one sv = true ∧ NwD w0 w' 23 sv (setP wd bits h d).2 := by
 refine Tryz.go179 (by simp) ?_
 obtain⟨W,hW,f1,k1,k2,k3,s1⟩:=allocs3 w0 (prC f vv bits (.slice Option.none 0 0)).toArray 122 (bl d) 23 prZ 122
 obtain⟨eb,eo,ec,rfl,_,_⟩:=he.pos (by rw[empts_len];decide)
 have re:=(he.fr0 f1).get (P:=Tryz.prog) Tryz.agg23 Tryz.sz23 (i:=h) (by rw[empts_len];omega)
 rw[List.getD_eq_getElem?_getD,empts_at wd 257 (by omega),Option.getD_some] at re
 have red:rdO Tryz.prog 23 W.drew eb (eo+h*32)=_:=re
 have y1:(0:Int)≤(h:Int)∧(h:Int)<(((empts wd 257).length:Nat):Int):=by rw[empts_len];omega
 have rd:=rd_d Tryz.agg23 Tryz.sz23 k2 hd
 have rdd:rdO Tryz.prog 23 W.drew (w0.heap.size+1) 0=_:=rd
 have eq:=eqDig hd (emptD_len wd h)
 have hpl:(prC f vv bits (.slice Option.none 0 0)).toArray.size=35:=by rw[List.size_toArray];exact prC_len hbl
 have zsz:prZ.size=35:=by simp[prZ]
 have k1d:W.drew.heap[w0.heap.size]?=_:=k1
 have k2d:W.drew.heap[w0.heap.size+1]?=_:=k2
 have k3d:W.drew.heap[w0.heap.size+2]?=_:=k3
 by_cases hde:d=emptD wd h
 ·have hb:(d == emptD wd h)=true:=by rw[beq_iff_eq];exact hde
  have r1:rdO Tryz.prog 122 W.drew w0.heap.size 0=some (.agg (prC f vv bits (.slice Option.none 0 0)).toArray):=rd_all Tryz.agg122 (by rw[hpl];exact Tryz.sz122) k1d
  have q1:wrO Tryz.prog 122 W.drew (w0.heap.size+2) 0 (.agg (prC f vv bits (.slice Option.none 0 0)).toArray)=some (put W.drew (w0.heap.size+2) (.cells (prC f vv bits (.slice Option.none 0 0)).toArray 122 (0,0))):=wr_all (by rw[hpl];exact Tryz.sz122) k3d (by rw[hpl];exact zsz) (prC_one hvo rfl)
  have k4:=put_at (o:=.cells (prC f vv bits (.slice Option.none 0 0)).toArray 122 (0,0)) k3d
  have r4:rdO Tryz.prog 122 _ (w0.heap.size+2) 0=some (.agg (prC f vv bits (.slice Option.none 0 0)).toArray):=rd_all Tryz.agg122 (by rw[hpl];exact Tryz.sz122) k4
  simp -implicitDefEqProofs only[go_sem,Nat.reduceEqDiff,Nat.reduceBEq,Nat.reduceAdd,gLa,gLz,gLs,Tryz.f179,Value.cells,hW,y1,and_self,Int.toNat_natCast,rd,rdd,re,red,eq,hb,r1,q1,r4]
  unfold setP
  rw[if_pos hde]
  exact⟨f1.drew.put (b:=w0.heap.size+2) _ fun h=>by omega,_,rfl,rfl,NwD.nil _ _ _⟩
 ·have hb:(d == emptD wd h)=false:=by rw[beq_eq_false_iff_ne];exact hde
  simp -implicitDefEqProofs only[go_sem,Nat.reduceEqDiff,Nat.reduceBEq,Nat.reduceAdd,gLa,gLz,gLs,Tryz.f179,Value.cells,hW,y1,and_self,Int.toNat_natCast,rd,rdd,re,red,eq,hb]
  have n8:((8:Int)=0)=False:=by simp
  have m8:(h:Int).tmod 8=((h % 8:Nat):Int):=rfl
  have q8:IntKind.i64.wrap ((h:Int).tdiv 8)=((h / 8:Nat):Int):=by rw[show (h:Int).tdiv 8=((h / 8:Nat):Int) from rfl];exact i64n (by omega)
  refine loopD [2,4,7,8,9,10] (v2I w0 W.drew (.slice Option.none 0 0) h) (h % 8) ⟨0,rfl,by omega,rfl,rfl⟩ ?_
  rintro _ vs w4 g ⟨i,rfl,hi,rfl,rfl⟩
  by_cases hlt:i<h % 8
  ·have d1:decide ((i:Int)<((h % 8:Nat):Int))=true:=by simp;omega
   have c1:IntKind.i64.wrap ((i:Int)+1)=((i+1:Nat):Int):=i64add (b:=1) (by omega)
   have c2:IntKind.u8.wrap (2*((2 ^ i:Nat):Int))=((2 ^ (i+1):Nat):Int):=by
    rw[wrap_u8]
    have:2 ^ (i+1)≤2 ^ 7:=Nat.pow_le_pow_right (by decide) (by omega)
    rw[Nat.pow_succ] at this ⊢
    omega
   simp -implicitDefEqProofs only[go_sem,Nat.reduceEqDiff,Nat.reduceBEq,Nat.reduceAdd,gLa,gLz,gLs,d1,n8,m8,c1,c2]
   exact⟨h % 8 - (i+1),by omega,i+1,rfl,by omega,rfl,rfl⟩
  ·have d1:decide ((i:Int)<((h % 8:Nat):Int))=false:=by simp;omega
   obtain rfl:i=h % 8:=by omega
   have hb8:h / 8<32:=by omega
   have y2:(0:Int)≤((h / 8:Nat):Int)∧((h / 8:Nat):Int)<((32:Nat):Int):=by omega
   have rb:rdO Tryz.prog 5 W.drew w0.heap.size (2+h / 8)=some (.int .u8 ((bits.getD (h / 8) 0).toNat:Int)):=by
    refine rd1 Tryz.agg5 k1d ?_
    rw[List.getElem?_toArray,Nat.add_comm]
    show (Value.bool f::vv::(bits.map u8++[Value.slice Option.none 0 0]))[h / 8+2]?=_
    rw[List.getElem?_cons_succ,List.getElem?_cons_succ,List.getElem?_append_left (by simp[hbl];omega),List.getElem?_map,List.getElem?_eq_getElem (by omega),getD_lt _ (by omega)];rfl
   have ho:=add_or8 (x:=bits.getD (h / 8) 0) (k:=h % 8) (Nat.mod_lt _ (by decide)) hfree
   have c3:IntKind.u8.wrap (((bits.getD (h / 8) 0).toNat:Int)+((2 ^ (h % 8):Nat):Int))=(((bits.getD (h / 8) 0 ||| BitVec.ofNat 8 (2 ^ (h % 8))).toNat:Nat):Int):=by
    rw[← Int.natCast_add,ho];exact w8_toNat _
   generalize hx:bits.getD (h / 8) 0 ||| BitVec.ofNat 8 (2 ^ (h % 8))=x at *
   have hps:=prC_set (f:=f) (vv:=vv) (sv:=.slice Option.none 0 0) (bits:=bits) (h / 8) x
   rw[if_pos (by omega)] at hps
   have hbl2:(bits.set (h / 8) x).length=32:=by rw[List.length_set];exact hbl
   have qb:wrO Tryz.prog 5 W.drew w0.heap.size (2+h / 8) (.int .u8 (x.toNat:Int))=some (put W.drew w0.heap.size (.cells (prC f vv (bits.set (h / 8) x) (.slice Option.none 0 0)).toArray 122 (0,0))):=by
    rw[← hps];exact wr1 Tryz.sz5 rfl k1d (by rw[hpl];omega)
   generalize hbits:bits.set (h / 8) x=bits' at *
   have j1:=put_at (o:=.cells (prC f vv bits' (.slice Option.none 0 0)).toArray 122 (0,0)) k1d
   have j2:=put_off (b:=w0.heap.size) (o:=.cells (prC f vv bits' (.slice Option.none 0 0)).toArray 122 (0,0)) k2d (by omega)
   have j3:=put_off (b:=w0.heap.size) (o:=.cells (prC f vv bits' (.slice Option.none 0 0)).toArray 122 (0,0)) k3d (by omega)
   have f5:No w0 (put W.drew w0.heap.size (.cells (prC f vv bits' (.slice Option.none 0 0)).toArray 122 (0,0))):=f1.drew.put (b:=w0.heap.size) _ fun h=>by omega
   obtain⟨w5,hw5⟩:∃ w5,w5=put W.drew w0.heap.size (.cells (prC f vv bits' (.slice Option.none 0 0)).toArray 122 (0,0)):=⟨_,rfl⟩
   rw[← hw5] at qb j1 j2 j3 f5
   have rs:rdO Tryz.prog 94 w5 w0.heap.size 34=some (.slice Option.none 0 0):=by
    refine rd1 Tryz.agg94 j1 ?_
    rw[List.getElem?_toArray]
    show (Value.bool f::vv::(bits'.map u8++[Value.slice Option.none 0 0]))[32+2]?=_
    rw[List.getElem?_cons_succ,List.getElem?_cons_succ,List.getElem?_append_right (by simp[hbl2])];simp[hbl2]
   have rd5:=rd_d Tryz.agg23 Tryz.sz23 j2 hd
   simp -implicitDefEqProofs only[go_sem,Nat.reduceEqDiff,Nat.reduceBEq,Nat.reduceAdd,gLa,gLz,gLs,d1,n8,m8,q8,y2,and_self,Int.toNat_natCast,Nat.mul_one,rb,c3,qb,rs,rd5]
   refine contL_is (v:=.slice (some ⟨w5.heap.size,0,Option.none⟩) 1 1) (w':=w5.alloc (.cells (bl d) 23)) (fill_one2 (y:=List.map u8 (List.replicate 32 0)) (by simp) (c:=bl (List.replicate 32 0)) (by simp) (d:=d) hd _) ?_
   obtain⟨v6,w6,hr6,b6,f6,g6,h6⟩:=(NwD.nil w0 w5 23).push Tryz.app94_94 hd (by simp) f5
   have i1:=g6.at j1 fun h=>by cases h
   have i3:=g6.at j3 fun h=>by cases h
   have hone6:one v6=true:=by obtain⟨a,c,e,_⟩:=b6.rd.slice;rw[e];rfl
   have hpl2:(prC f vv bits' (.slice Option.none 0 0)).toArray.size=35:=by rw[List.size_toArray];exact prC_len hbl2
   have hpl3:(prC f vv bits' v6).toArray.size=35:=by rw[List.size_toArray];exact prC_len hbl2
   have q7:wrO Tryz.prog 94 w6 w0.heap.size 34 v6=some (put w6 w0.heap.size (.cells (prC f vv bits' v6).toArray 122 (0,0))):=by
    have:=wr1 (P:=Tryz.prog) Tryz.sz94 hone6 i1 (o:=34) (by rw[hpl2];decide)
    rw[prC_sums hbl2] at this
    exact this
   have m1:=put_at (o:=.cells (prC f vv bits' v6).toArray 122 (0,0)) i1
   have m3:=put_off (b:=w0.heap.size) (o:=.cells (prC f vv bits' v6).toArray 122 (0,0)) i3 (by omega)
   have f7:No w0 (put w6 w0.heap.size (.cells (prC f vv bits' v6).toArray 122 (0,0))):=f6.put (b:=w0.heap.size) _ fun h=>by omega
   have b7:NwD w0 (put w6 w0.heap.size (.cells (prC f vv bits' v6).toArray 122 (0,0))) 23 v6 [d]:=b6.put _ fun c hc h=>by
    rcases h6 c hc with h' | h'
    ·cases h'
    ·have:=heap_lt j1;omega
   obtain⟨w7,hw7⟩:∃ w7,w7=put w6 w0.heap.size (.cells (prC f vv bits' v6).toArray 122 (0,0)):=⟨_,rfl⟩
   rw[← hw7] at q7 m1 m3 f7 b7
   have r8:rdO Tryz.prog 122 w7 w0.heap.size 0=some (.agg (prC f vv bits' v6).toArray):=rd_all Tryz.agg122 (by rw[hpl3];exact Tryz.sz122) m1
   have q8:wrO Tryz.prog 122 w7 (w0.heap.size+2) 0 (.agg (prC f vv bits' v6).toArray)=some (put w7 (w0.heap.size+2) (.cells (prC f vv bits' v6).toArray 122 (0,0))):=wr_all (by rw[hpl3];exact Tryz.sz122) m3 (by rw[hpl3];exact zsz) (prC_one hvo hone6)
   have r9:rdO Tryz.prog 122 _ (w0.heap.size+2) 0=some (.agg (prC f vv bits' v6).toArray):=rd_all Tryz.agg122 (by rw[hpl3];exact Tryz.sz122) (put_at (o:=.cells (prC f vv bits' v6).toArray 122 (0,0)) m3)
   simp -implicitDefEqProofs only[go_sem,Nat.reduceEqDiff,Nat.reduceBEq,Nat.reduceAdd,gLa,gLz,gLs]
   refine contL_sem ⟨v6,w6,hr6,?_⟩
   simp -implicitDefEqProofs only[go_sem,Nat.reduceEqDiff,Nat.reduceBEq,Nat.reduceAdd,gLa,gLz,gLs,q7,r8,q8,r9]
   unfold setP
   rw[if_neg hde,hx]
   simp only[hbits]
   exact⟨f7.put (b:=w0.heap.size+2) _ fun h=>by omega,v6,rfl,hone6,b7.put _ fun c hc h=>by
    rcases h6 c hc with h' | h'
    ·cases h'
    ·have:=heap_lt j3;omega⟩
theorem prC_flag {f f':Bool} {vv sv:Value} {bits:Bs}:(prC f vv bits sv).toArray.setIfInBounds 0 (.bool f')=(prC f' vv bits sv).toArray:=by
 apply Array.toList_inj.1
 simp[prC]
theorem prC_val {f:Bool} {vv vv' sv:Value} {bits:Bs}:(prC f vv bits sv).toArray.setIfInBounds 1 vv'=(prC f vv' bits sv).toArray:=by
 apply Array.toList_inj.1
 simp[prC]
theorem digest12X (w0 : World) (ht : Tabs w0) (wd : Int) {esv mv : Value} (he : RdD w0 esv (empts wd 257)) {e : Bs × Bs} (hm : EnR w0 mv [e]) (hl : e.2.length ≤ 549755813888) {n : Nat} (hn : n ≤ 256) {x : Bs} (hx : Lone wd e n x) :
    Fn Tryz.prog 178 #[esv,.int .i64 wd,mv,.int .i64 (n : Nat)] w0 fun v w' => v = dg x ∧ No w0 w' := by
 rw[hx];exact digest12 w0 ht wd he hm hl hn
/-- what chapter 12 tells of the first one of two keys that part at once -/
def pwI (w0:World) (wd:Int) (esv mv:Value) (k:Bs) (e1 e2:Bs × Bs) (n:Nat) (vs:List Value) (w:World):Prop :=
 ∃ (i:Nat) (vv:Value),vs=[esv,.int .i64 wd,mv,pt w0.heap.size 0,pt (w0.heap.size+1) 0,pt (w0.heap.size+2) 0,.int .i64 (i:Nat)]∧i≤2∧n=2 - i ∧
  w.heap[w0.heap.size]?=some (.cells (bl k) 34 (0,0))∧w.heap[w0.heap.size+1]?=some (.cells prZ 122 (0,0))∧w.heap[w0.heap.size+2]?=some (.cells (prC (decide (0<i)) vv (List.replicate 32 0) (.slice Option.none 0 0)).toArray 122 (0,0))∧No w0 w ∧
  one vv=true∧(if i=0 then vv=.slice Option.none 0 0 else NwB w0 w vv e1.2)∧∀ b,blockOf vv=some b→w0.heap.size+3≤b
theorem prZ_eq:prZ=(prC false (.slice Option.none 0 0) (List.replicate 32 0) (.slice Option.none 0 0)).toArray:=by
 apply Array.toList_inj.1
 simp[prZ,prC]
def pwJ (w0:World) (wd:Int) (esv mv:Value) (k:Bs) (e1:Bs × Bs) (x2:Bs) (n:Nat) (vs:List Value) (w:World):Prop :=
 ∃ (h:Nat) (vv sv:Value),vs=[esv,.int .i64 wd,mv,pt w0.heap.size 0,pt (w0.heap.size+1) 0,pt (w0.heap.size+2) 0,.int .i64 (h:Nat)]∧h≤256∧n=256 - h ∧
  w.heap[w0.heap.size]?=some (.cells (bl k) 34 (0,0))∧w.heap[w0.heap.size+1]?=some (.cells prZ 122 (0,0)) ∧
  w.heap[w0.heap.size+2]?=some (.cells (prC true vv (if h<256 then List.replicate 32 0 else (setP wd (List.replicate 32 0) 255 x2).1) sv).toArray 122 (0,0))∧No w0 w∧one vv=true∧NwB w0 w vv e1.2∧one sv=true∧(if h<256 then sv=.slice Option.none 0 0 else NwD w0 w 23 sv (setP wd (List.replicate 32 0) 255 x2).2) ∧
  (∀ b,blockOf vv=some b→w0.heap.size+3≤b)∧∀ b,blockOf sv=some b→w0.heap.size+3≤b
set_option maxHeartbeats 2000000 in
theorem proveWith2 (w0 : World) (ht : Tabs w0) (wd : Int) {esv mv : Value} (he : RdD w0 esv (empts wd 257)) {e1 e2 : Bs × Bs} (hm : EnR w0 mv [e1, e2]) (hc : common e2.1 e1.1 = 0) (hl1 : e1.2.length ≤ 2 ^ 30) (hl2 : e2.2.length ≤ 2 ^ 30) {x2 : Bs} (hx2 : Lone wd e2 255 x2) :
    Fn Tryz.prog 126 #[esv,.int .i64 wd,mv,dg e1.1] w0 fun v w' => No w0 w' ∧ ∃ vv sv,v = .agg (prC true vv (setP wd (List.replicate 32 0) 255 x2).1 sv).toArray ∧ one vv = true ∧ one sv = true ∧ NwB w0 w' vv e1.2 ∧ NwD w0 w' 23 sv (setP wd (List.replicate 32 0) 255 x2).2 := by
 refine Tryz.go126 (by simp) ?_
 obtain⟨b,o,cap,vv1,rfl,hcap,hk1,ho1,hby1,hrd1⟩:=hm.at (i:=0) (by simp)
 obtain⟨b',o',cap',vv2,e,_,hk2,ho2,hby2,hrd2⟩:=hm.at (i:=1) (by simp)
 cases e
 simp only[List.getElem_cons_zero,List.getElem_cons_succ] at hk1 hk2 hrd1 hrd2 hby1 hby2
 have hne:e2.1≠e1.1:=fun h=>by
  have:common e2.1 e1.1=256:=by rw[h];exact common_is (fun _ _=>rfl) (fun h=>absurd h (by omega)) (Nat.le_refl _)
  omega
 obtain⟨W,hW,f1,k1,k2,k3,s1⟩:=allocs3 w0 (bl e1.1) 34 prZ 122 prZ 122
 simp -implicitDefEqProofs only[go_sem,Nat.reduceEqDiff,Nat.reduceBEq,Nat.reduceAdd,gLa,gLz,gLs,Tryz.f126,Value.cells,hW]
 have zl:(List.replicate 32 (0:Byte)).length=32:=List.length_replicate
 refine loopD [0,1,2,7,8,9,10] (pwI w0 wd esv (.slice (some ⟨b,o,Option.none⟩) ([e1,e2]:List (Bs × Bs)).length cap) e1.1 e1 e2) 2 ⟨0,.slice Option.none 0 0,rfl,by omega,rfl,k1,k2,by rw[prZ_eq] at k3;exact k3,f1,rfl,rfl,fun b hb=>by cases hb⟩ ?_
 rintro _ vs w g ⟨i,vv,rfl,hi,rfl,j1,j2,j3,f,hvo,hvv,hvb⟩
 rcases Nat.lt_or_ge i 2 with hlt | hge
 ·have d1:decide ((i:Int)<((([e1,e2]:List (Bs × Bs)).length:Nat):Int))=true:=by simp;omega
  have c1:IntKind.i64.wrap ((i:Int)+1)=((i+1:Nat):Int):=i64add (b:=1) (by omega)
  have y:(0:Int)≤(i:Int)∧(i:Int)<((([e1,e2]:List (Bs × Bs)).length:Nat):Int):=by simp;omega
  have rk:=rd_d Tryz.agg34 Tryz.sz34 j1 hk1
  have rkd:rdO Tryz.prog 34 w.drew w0.heap.size 0=_:=rk
  rcases Nat.lt_or_ge i 1 with h0 | h0
  ·obtain rfl:i=0:=by omega
   rw[if_pos rfl] at hvv
   subst hvv
   have r1:=(hrd1 w f).1
   have r1d:rdO Tryz.prog 34 w.drew b (o+0*33)=_:=r1
   rw[Nat.zero_mul,Nat.add_zero] at r1 r1d
   have eq:=eqKey hk1 hk1
   have hb:(e1.1 == e1.1)=true:=by simp
   have d0:decide (0<0)=false:=rfl
   rw[d0] at j3
   have j3d:w.drew.heap[w0.heap.size+2]?=_:=j3
   have hsz:(prC false (.slice Option.none 0 0) (List.replicate 32 0) (.slice Option.none 0 0)).toArray.size=35:=by rw[List.size_toArray];exact prC_len zl
   have q1:wrO Tryz.prog 4 w.drew (w0.heap.size+2) 0 (.bool true)=some (put w.drew (w0.heap.size+2) (.cells (prC true (.slice Option.none 0 0) (List.replicate 32 0) (.slice Option.none 0 0)).toArray 122 (0,0))):=by
    rw[← prC_flag (f:=false)];exact wr1 Tryz.sz4 rfl j3d (by rw[hsz];decide)
   have m3:=put_at (o:=.cells (prC true (.slice Option.none 0 0) (List.replicate 32 0) (.slice Option.none 0 0)).toArray 122 (0,0)) j3d
   have m1:=put_off (b:=w0.heap.size+2) (o:=.cells (prC true (.slice Option.none 0 0) (List.replicate 32 0) (.slice Option.none 0 0)).toArray 122 (0,0)) (show w.drew.heap[w0.heap.size]?=_ from j1) (by omega)
   have m2:=put_off (b:=w0.heap.size+2) (o:=.cells (prC true (.slice Option.none 0 0) (List.replicate 32 0) (.slice Option.none 0 0)).toArray 122 (0,0)) (show w.drew.heap[w0.heap.size+1]?=_ from j2) (by omega)
   have f3:No w0 (put w.drew (w0.heap.size+2) (.cells (prC true (.slice Option.none 0 0) (List.replicate 32 0) (.slice Option.none 0 0)).toArray 122 (0,0))):=f.drew.put (b:=w0.heap.size+2) _ fun h=>by omega
   obtain⟨w3,hw3⟩:∃ w3,w3=put w.drew (w0.heap.size+2) (.cells (prC true (.slice Option.none 0 0) (List.replicate 32 0) (.slice Option.none 0 0)).toArray 122 (0,0)):=⟨_,rfl⟩
   rw[← hw3] at q1 m1 m2 m3 f3
   have r2:=(hrd1 w3 f3).2.1
   rw[Nat.zero_mul,Nat.add_zero] at r2
   simp -implicitDefEqProofs only[go_sem,Nat.reduceEqDiff,Nat.reduceBEq,Nat.reduceAdd,gLa,gLz,gLs,d1,decide_true,y,and_self,Int.toNat_natCast,r1,r1d,rk,rkd,eq,hb,q1,r2]
   refine contL_call Tryz.pl135 ((bytes12 w3 (hby1.fr0 f3) (by omega)).mono ?_)
   rintro v4 w4 ⟨n4,f4⟩
   have hone4:=n4.by.one
   have q5:wrO Tryz.prog 25 w4 (w0.heap.size+2) 1 v4=some (put w4 (w0.heap.size+2) (.cells (prC true v4 (List.replicate 32 0) (.slice Option.none 0 0)).toArray 122 (0,0))):=by
    rw[← prC_val (vv:=.slice Option.none 0 0)]
    exact wr1 Tryz.sz25 hone4 (f4.at m3 id) (by rw[List.size_toArray,prC_len zl];decide)
   have h3s:=heap_lt m3
   simp -implicitDefEqProofs only[go_sem,Nat.reduceEqDiff,Nat.reduceBEq,Nat.reduceAdd,gLa,gLz,gLs,q5,c1]
   exact⟨1,by omega,1,v4,rfl,by omega,rfl,put_off (f4.at m1 id) (by omega),put_off (f4.at m2 id) (by omega),put_at (f4.at m3 id),(f3.trans f4).put (b:=w0.heap.size+2) _ fun h=>by omega,hone4,
    (n4.back f3.size).put _ fun c hc h=>by have:=(n4.lt hc).1;omega,fun c hc=>by have:=(n4.lt hc).1;omega⟩
  ·obtain rfl:i=1:=by omega
   rw[if_neg (by omega)] at hvv
   have r1:=(hrd2 w f).1
   have r1d:rdO Tryz.prog 34 w.drew b (o+1*33)=_:=r1
   have eq:=eqKey hk2 hk1
   have hb:(e2.1 == e1.1)=false:=by rw[beq_eq_false_iff_ne];exact hne
   simp -implicitDefEqProofs only[go_sem,Nat.reduceEqDiff,Nat.reduceBEq,Nat.reduceAdd,gLa,gLz,gLs,d1,decide_true,y,and_self,Int.toNat_natCast,r1,r1d,rk,rkd,eq,hb,c1]
   exact⟨0,by omega,2,vv,rfl,by omega,rfl,j1,j2,j3,f.drew,hvo,hvv.fr0 (Fr.refl _ _).drew,hvb⟩
 ·obtain rfl:i=2:=by omega
  rw[if_neg (by omega)] at hvv
  have d1:decide (((2:Nat):Int)<((([e1,e2]:List (Bs × Bs)).length:Nat):Int))=false:=rfl
  simp -implicitDefEqProofs only[go_sem,Nat.reduceEqDiff,Nat.reduceBEq,Nat.reduceAdd,gLa,gLz,gLs,d1]
  refine loopD [0,1,2,7,8,9,11] (pwJ w0 wd esv (.slice (some ⟨b,o,Option.none⟩) ([e1,e2]:List (Bs × Bs)).length cap) e1.1 e1 x2) 256 ⟨0,vv,.slice Option.none 0 0,rfl,by omega,rfl,j1,j2,by rw[if_pos (by omega)];exact j3,f,hvo,hvv,rfl,by rw[if_pos (by omega)],hvb,fun b hb=>(by cases hb)⟩ ?_
  clear j1 j2 j3 f hvo hvv hvb d1
  rintro _ vs w g ⟨h,vv,sv,rfl,hh,rfl,j1,j2,j3,f,hvo,hvv,hso,hsv,hvb,hsb⟩
  by_cases hlt:h<256
  ·rw[if_pos hlt] at j3 hsv
   subst hsv
   have d1:decide ((h:Int)<256)=true:=by simp;omega
   have c1:IntKind.i64.wrap ((h:Int)+1)=((h+1:Nat):Int):=i64add (b:=1) (by omega)
   have rk:=rd_d Tryz.agg34 Tryz.sz34 j1 hk1
   simp -implicitDefEqProofs only[go_sem,Nat.reduceEqDiff,Nat.reduceBEq,Nat.reduceAdd,gLa,gLz,gLs,d1,rk]
   refine contL_call Tryz.pl177 ((neighbours12 w (hm.fr0 f) (by simp) hk1 hlt).mono ?_)
   rintro nv w2 ⟨n2,f2⟩
   have hcs:common e1.1 e1.1=256:=common_is (fun _ _=>rfl) (fun h=>absurd h (by omega)) (Nat.le_refl _)
   have n2:=n2.rd f2
   have h3s:=heap_lt j3
   by_cases h5:h=255
   ·subst h5
    have hnb:nbE e1.1 255 [e1,e2]=[e2]:=by simp[nbE,hcs,hc]
    rw[hnb] at n2
    obtain⟨na,nc,rfl,_⟩:=id n2.slice
    have d2:decide (((([e2]:List (Bs × Bs)).length:Nat):Int) > 0)=true:=rfl
    simp -implicitDefEqProofs only[go_sem,Nat.reduceEqDiff,Nat.reduceBEq,Nat.reduceAdd,gLa,gLz,gLs,d2]
    refine contL_call Tryz.pl178 ((digest12X w2 (ht.no (f.trans f2)) wd (he.fr0 (f.trans f2)) n2 (by omega) (n:=255) (by decide) hx2).mono ?_)
    rintro _ w3 ⟨rfl,f3⟩
    obtain⟨W4,q4,k4,f4,s4⟩:=allocD w3 (ty:=23) Tryz.sz23 hx2.len
    have f24:=(f2.trans f3).trans f4
    have f04:=f.trans f24
    have r4:=rd_d Tryz.agg23 Tryz.sz23 k4 hx2.len
    have m3:=f24.at j3 id
    have hsz:(prC true vv (List.replicate 32 0) (.slice Option.none 0 0)).toArray.size=35:=by rw[List.size_toArray];exact prC_len zl
    have rp:rdO Tryz.prog 122 W4 (w0.heap.size+2) 0=some (.agg (prC true vv (List.replicate 32 0) (.slice Option.none 0 0)).toArray):=rd_all Tryz.agg122 (by rw[hsz];exact Tryz.sz122) m3
    simp -implicitDefEqProofs only[go_sem,Nat.reduceEqDiff,Nat.reduceBEq,Nat.reduceAdd,gLa,gLz,gLs,Value.cells,bl_zero,q4,r4,rp]
    refine contL_call Tryz.pl179 ((set12 W4 wd (he.fr0 f04) zl hvo (h:=255) (by decide) (by decide) hx2.len).mono ?_)
    rintro _ w5 ⟨f5,sv,rfl,hone5,n5⟩
    have hbl5:(setP wd (List.replicate 32 0) 255 x2).1.length=32:=by unfold setP;split <;> simp
    have hsz5:(prC true vv (setP wd (List.replicate 32 0) 255 x2).1 sv).toArray.size=35:=by rw[List.size_toArray];exact prC_len hbl5
    have q6:wrO Tryz.prog 122 w5 (w0.heap.size+2) 0 (.agg (prC true vv (setP wd (List.replicate 32 0) 255 x2).1 sv).toArray)=some (put w5 (w0.heap.size+2) (.cells (prC true vv (setP wd (List.replicate 32 0) 255 x2).1 sv).toArray 122 (0,0))):=wr_all (by rw[hsz5];exact Tryz.sz122) (f5.at m3 id) (by rw[hsz5];exact hsz) (prC_one hvo hone5)
    have c1:IntKind.i64.wrap (((255:Nat):Int)+1)=((256:Nat):Int):=rfl
    simp -implicitDefEqProofs only[go_sem,Nat.reduceEqDiff,Nat.reduceBEq,Nat.reduceAdd,gLa,gLz,gLs,q6,c1]
    refine⟨0,by omega,256,vv,sv,rfl,by omega,rfl,put_off (f5.at (f24.at j1 id) id) (by omega),put_off (f5.at (f24.at j2 id) id) (by omega),by rw[if_neg (by omega)];exact put_at (f5.at m3 id),(f04.trans f5).put (b:=w0.heap.size+2) _ fun h=>by omega,hvo,
     ((hvv.fr0 f24).fr0 f5).put _ fun c hc h=>by have:=hvb c hc;omega,hone5,?_,hvb,fun c hc=>by have:=(n5.lt hc).1;have:=f24.size;omega⟩
    rw[if_neg (by omega)]
    exact (n5.back f04.size).put _ fun c hc h=>by have:=(n5.lt hc).1;have:=f24.size;omega
   ·have hnb : nbE e1.1 h [e1, e2] = [] := by
      have a1 : ¬ (256 = 255 - h) := by omega
      have a2 : ¬ (0 = 255 - h) := by omega
      simp [nbE,hcs,hc,a1,a2]
    rw[hnb] at n2
    obtain⟨na,nc,rfl,_⟩:=id n2.slice
    have d2:decide (((([]:List (Bs × Bs)).length:Nat):Int) > 0)=false:=rfl
    simp -implicitDefEqProofs only[go_sem,Nat.reduceEqDiff,Nat.reduceBEq,Nat.reduceAdd,gLa,gLz,gLs,d2,c1]
    exact⟨256 - (h+1),by omega,h+1,vv,.slice Option.none 0 0,rfl,by omega,rfl,f2.at j1 id,f2.at j2 id,by rw[if_pos (by omega)];exact f2.at j3 id,f.trans f2,hvo,hvv.fr0 f2,rfl,by rw[if_pos (by omega)],hvb,hsb⟩
  ·obtain rfl:h=256:=by omega
   rw[if_neg hlt] at j3 hsv
   have d1:decide (((256:Nat):Int)<256)=false:=rfl
   have hbl5:(setP wd (List.replicate 32 0) 255 x2).1.length=32:=by unfold setP;split <;> simp
   have hsz5:(prC true vv (setP wd (List.replicate 32 0) 255 x2).1 sv).toArray.size=35:=by rw[List.size_toArray];exact prC_len hbl5
   have rp:rdO Tryz.prog 122 w (w0.heap.size+2) 0=some (.agg (prC true vv (setP wd (List.replicate 32 0) 255 x2).1 sv).toArray):=rd_all Tryz.agg122 (by rw[hsz5];exact Tryz.sz122) j3
   have q6:wrO Tryz.prog 122 w (w0.heap.size+1) 0 (.agg (prC true vv (setP wd (List.replicate 32 0) 255 x2).1 sv).toArray)=some (put w (w0.heap.size+1) (.cells (prC true vv (setP wd (List.replicate 32 0) 255 x2).1 sv).toArray 122 (0,0))):=wr_all (by rw[hsz5];exact Tryz.sz122) j2 (by rw[hsz5];simp[prZ]) (prC_one hvo hso)
   have r7:rdO Tryz.prog 122 _ (w0.heap.size+1) 0=some (.agg (prC true vv (setP wd (List.replicate 32 0) 255 x2).1 sv).toArray):=rd_all Tryz.agg122 (by rw[hsz5];exact Tryz.sz122) (put_at (o:=.cells (prC true vv (setP wd (List.replicate 32 0) 255 x2).1 sv).toArray 122 (0,0)) j2)
   simp -implicitDefEqProofs only[go_sem,Nat.reduceEqDiff,Nat.reduceBEq,Nat.reduceAdd,gLa,gLz,gLs,d1,rp,q6,r7]
   exact⟨f.put (b:=w0.heap.size+1) _ fun h=>by omega,vv,sv,rfl,hvo,hso,hvv.put _ fun c hc h=>by have:=hvb c hc;omega,hsv.put _ fun c hc h=>by have:=hsb c hc;omega⟩
end R
end Go.V
end
