/- Helpers. -/
import Derived.Test.YtppmpdjlmgfdkaaGreatDoorG32
import Derived.Test.YtppmpdjlmgfdkaaGreatDoorG11
set_option linter.all false
set_option maxRecDepth 100000
set_option maxHeartbeats 8000000
open Array renaming all_toList→vM
open Int renaming toNat_zero→vQ
open List renaming replicate→zV,nil_append→zS
open Nat renaming reduceEqDiff→jY,zero_add→zB,reduceBEq→jG,zero_mul→jL,le_refl→xT,reduceAdd→y7,add_zero→jA
open Option renaming none→vD
open Go.Value renaming cells→jH
namespace Go.V
open Go.Proofs.Tryz Go.V.Tryz
open Go.Proofs Sha
variable {D bs:Bs} {e:Bs × Bs} {b c cap o:Nat} {fz:Nat × Nat} {mv v:Value} {w:World}
section
namespace R
open Aud A
theorem bldTr0:bldO prog 141 []=some (.agg tr0):=by
 unfold bldO;rw[zero141,places141];rfl
theorem image0 (w:World)(ht:Tabs w)(wd:Nat)(first:Nat)(a:Option Addr)(cap:Nat) :
  Fn prog 30 #[vi wd,vi first,.slice a 0 cap] w fun v w'=>v=.tuple #[nil0,vi 2]∧No w w':=by
 refine go30 (by simp) ?_;simp -implicitDefEqProofs only[go_sem,jY,y7,zB,Tryz.f30];refine qQa pl55 ((empties w ht wd).mono ?_);rintro esv w1 ⟨he,f1⟩;obtain⟨W2,hW2,f2,k2,s2⟩:=qQl w1 tr0 141;have q2:wrO prog 141 W2 w1.heap.size 0 (.agg tr0)=some (put W2 w1.heap.size (.cells tr0 141 (0,0))):=qQr sz141 k2 rfl (by rw[← vM];rfl);have f3:No w1 (put W2 w1.heap.size (.cells tr0 141 (0,0))):=f2.put (b:=w1.heap.size) _ fun h=>by omega
 simp -implicitDefEqProofs only[go_sem,jY,jH,bldTr0,hW2,q2];generalize put W2 w1.heap.size (.cells tr0 141 (0,0))=w3 at *;refine loopD [2,9,13,14] (fun n vs w'=>n=0∧vs=[.slice a 0 cap,nil0,.int .i64 2,.int .i64 0]∧w'=w3) 0 ⟨rfl,rfl,rfl⟩ ?_;rintro _ vs w' g ⟨rfl,rfl,rfl⟩;have d1:decide ((0:Int)<((0:Nat):Int))=false:=rfl;simp -implicitDefEqProofs only[go_sem,jY,gLa,gLz,d1];exact And.intro rfl (f1.trans f3)
def im1 (k v D:Bs):Bs:=pagB 1 2 (k++v)++pagB 3 3 (lodR ⟨1,0,0,0,2,1,D⟩)
def imI (w0 w1:World)(wd:Nat)(msv esv:Value)(tb:Nat)(O:Bs)(n:Nat)(vs:List Value)(w:World):Prop :=
 (n=1∧vs=[vi wd,vi 0,msv,esv,nil0,nil0,nil0,pt tb 0,.int .i64 2,.int .i64 0]∧w=w1) ∨
 (n=0∧∃ out x y,vs=[vi wd,vi 0,msv,esv,out,x,y,pt tb 0,vi 4,vi 1]∧NwB w0 w out O∧No w0 w)
def imJ (w0 w1:World)(wd:Nat)(msv esv nv:Value)(tb tb2:Nat)(O:Bs)(n:Nat)(vs:List Value)(w:World):Prop :=
 (n=1∧vs=[vi wd,vi 0,msv,esv,nil0,nil0,nil0,pt tb 0,.int .i64 2,.int .i64 0,pt tb2 0,nv,.int .i64 0]∧w=w1) ∨
 (n=0∧∃ out,vs=[vi wd,vi 0,msv,esv,out,nil0,nil0,pt tb 0,.int .i64 2,.int .i64 0,pt tb2 0,nv,vi 1]∧NwB w1 w out O∧No w1 w)
def ImS (w4:World)(e:Bs × Bs)(D:Bs)(t2:Nat)(mv nv sv:Value)(w5:World):Prop :=
 No w4 w5∧w4.heap.size≤t2∧w5.heap[t2]?=some (.cells #[vi 2,mv,sv] 141 (0,0))∧one sv=true∧∃ vv,one vv=true∧By w5 vv e.2∧NwR w4 w5 78 102 nv [ndA (.leaf e.1 e.2) vv]
def ImB (w4:World)(wd:Nat)(msv esv mv:Value)(tb:Nat)(e:Bs × Bs)(D:Bs)(x0 x1 x2 x8 x9 x10 x11 x12 x13 x14 x15 x16:Value)(w5:World):Prop :=
 ∃ t2 nv sv,x0=vi wd∧x1=vi 0∧x2=msv∧x8=esv∧x9=nil0∧x10=nil0∧x11=nil0∧x12=pt tb 0∧x13=.int .i64 2∧x14=.int .i64 0∧x15=pt t2 0∧x16=nv∧ImS w4 e D t2 mv nv sv w5
theorem by_off (h:By w v bs)(h0:0<bs.length){cs:Array Value}{e:TypeId}(hc:w.heap[c]?=some (.cells cs e fz))(hx:∀ (i:Nat) (n:Int),cs[i]?≠some (.int .u8 n)):qQg v≠some c:=by
 intro hb;obtain⟨_,a,cap,rfl,_,hat⟩:=h;obtain⟨b',o,rfl,hr⟩:=hat (by omega);cases hb;have:=hr 0 (by omega);rw[qXe hc,List.getElem?_map,List.getElem?_eq_getElem h0]at this;exact hx _ _ this
theorem by_frn {F:Nat→Prop}{w w':World}(h:By w v bs)(f:Fr F w w')(hf:0<bs.length→∀ b,qQg v=some b→¬ F b):By w' v bs:=by
 by_cases h0:0<bs.length
 ·exact h.fr f fun b hb _=>hf h0 b hb
 ·have:bs=[]:=List.length_eq_zero_iff.1 (by omega)
  subst this;obtain⟨h1,a,cap,rfl,h2,_⟩:=h;exact⟨h1,a,cap,rfl,h2,fun h=>absurd h (by simp)⟩
def ImC (w7:World)(wd:Nat)(msv esv out:Value)(tb:Nat)(D:Bs)(x0 x1 x2 x8 x9 x10 x11 x12 x13 x14 x18:Value)(w:World):Prop :=
 ∃ rb,x0=vi wd∧x1=vi 0∧x2=msv∧x8=esv∧x9=out∧x10=nil0∧x11=nil0∧x12=pt tb 0∧x13=vi 3∧x14=.int .i64 0∧x18=pt rb 0∧No w7 w∧w7.heap.size≤rb∧w.heap[rb]?=some (.cells (rcC ⟨0,0,0,0,2,1,D⟩).toArray 80 (0,0))
theorem image1 (w:World)(ht:Tabs w)(hdv:DivT w)(wd:Nat)(hms:∀ w', No w w'→rdO prog 84 w' b o=some mv)(hm:EnR w mv [e])(hl:e.2.length≤128)
  (hD:climb wd e.1 0 (leafD wd e.1 e.2) ((empts wd 257).take 256)=D) (hDl:D.length=32) :
  Fn prog 30 #[vi wd,vi 0,.slice (some ⟨b,o,.none⟩) 1 cap] w fun v w'=>∃ out,v=.tuple #[out,vi 4]∧NwB w w' out (im1 e.1 e.2 D)∧No w w':=by
 refine go30 (by simp) ?_;simp -implicitDefEqProofs only[go_sem,jY,y7,zB,Tryz.f30];refine qQa pl55 ((empties w ht wd).mono ?_);rintro esv w1 ⟨he,f1⟩;obtain⟨W2,hW2,f2,k2,s2⟩:=qQl w1 tr0 141;have q2:wrO prog 141 W2 w1.heap.size 0 (.agg tr0)=some (put W2 w1.heap.size (.cells tr0 141 (0,0))):=qQr sz141 k2 rfl (by rw[← vM];rfl);have k3:=qQd (o:=.cells tr0 141 (0,0)) k2;have f3:No w1 (put W2 w1.heap.size (.cells tr0 141 (0,0))):=f2.put (b:=w1.heap.size) _ fun h=>by omega
 simp -implicitDefEqProofs only[go_sem,jY,jH,bldTr0,hW2,q2];generalize put W2 w1.heap.size (.cells tr0 141 (0,0))=w3 at *;have f03:=f1.trans f3;have he3:=he.rd.fr0 f3;have omv:one mv=true:=by obtain⟨a,c,e,_⟩:=hm.slice;rw[e];rfl
 refine loopD [0,1,2,8,9,10,11,12,13,14] (imI w w3 wd (.slice (some ⟨b,o,.none⟩) 1 cap) esv w1.heap.size (im1 e.1 e.2 D)) 1 (.inl ⟨rfl,rfl,rfl⟩) ?_;rintro _ vs w4 g (⟨rfl,rfl,rfl⟩ | ⟨rfl,out,x,y,rfl,hout,f4⟩)
 case inr =>
  have d1:decide ((1:Int)<((1:Nat):Int))=false:=rfl;have d1':decide (((1:Nat):Int)<((1:Nat):Int))=false:=rfl;simp -implicitDefEqProofs only[go_sem,jY,gLa,gLz,d1'];exact⟨out,rfl,hout,f4⟩
 have d0:decide ((0:Int)<((1:Nat):Int))=true:=rfl;have y1:(0:Int)≤0∧(0:Int)<((1:Nat):Int):=by simp
 simp -implicitDefEqProofs only[go_sem,jY,gLa,gLz,d0];refine qXc (Q:=fun e' ev w5=>e'=.normal∧ImB w4 wd (.slice (some ⟨b,o,.none⟩) 1 cap) esv mv w1.heap.size e D (ev 0) (ev 1) (ev 2) (ev 8) (ev 9) (ev 10) (ev 11) (ev 12) (ev 13) (ev 14) (ev 15) (ev 16) w5) _ (fun e' ev w5=>?_) ?_
 ·rintro⟨rfl,t2,nv,sv,e0,e1,e2,e8,e9,e10,e11,e12,e13,e14,e15,e16,f5,ht2,kt2,osv,vv,ovv,hvv,hnv⟩
  rw[thenQ_normal];have f05:=f03.trans f5;obtain⟨na,nc,rfl,_⟩:=hnv.rd.slice;simp -implicitDefEqProofs only[go_sem];refine loopD [0,1,2,8,9,10,11,12,13,14,15,16,17] (imJ w w5 wd (.slice (some ⟨b,o,.none⟩) 1 cap) esv (.slice na 1 nc) w1.heap.size t2 (pagB 1 2 (e.1++e.2))) 1 (.inl ⟨rfl,?_,rfl⟩) ?_
  ·simp -implicitDefEqProofs only[go_sem,jY,e0,e1,e2,e8,e9,e10,e11,e12,e13,e14,e15,e16]
   rfl
  rintro _ vs w6 g (⟨rfl,rfl,rfl⟩ | ⟨rfl,out,rfl,hout,f6⟩)
  ·have hkl:e.1.length=32:=by obtain⟨_,_,_,_,_,_,h,_⟩:=hm.at (i:=0) (by simp);exact h
   have hnr:(Nd.leaf e.1 e.2).right:=⟨hkl,by omega⟩
   obtain⟨nb,no,nc',hne,_⟩:=hnv.rd.pos (by decide) (by simp);cases hne;have a1:IntKind.i64.wrap ((2:Int)+0)=((2:Nat):Int):=rfl;simp -implicitDefEqProofs only[go_sem,jY,gLa,gLz,d0];refine qXf (fun j=>false) (.one 0 (.one 1 (.one 2 (.one 3 (.one 4 (.one 6 (.one 7 (.one 8 (.one 9 (.one 10 (.one 11 (.one 12 (.two 5 (.row [13,14,15,16]) 13 (.row [5,14,15,16])))))))))))))) rfl (by kernel_rfl) (by kernel_rfl) ?_;have f66:No w6 w6.drew:=(Fr.refl _ _).drew;have hnv6:=hnv.fr0 f66;have hvv6:=hvv.fr0 f66;have f06:=f05.trans f66;generalize w6.drew=w7 at *;have rw7:rdO prog 78 w7 nb (no+0*102)=some (.agg (ndA (.leaf e.1 e.2) vv).toArray):=hnv6.rd.get (P:=prog) (t:=78) agg78 sz78 (by decide) (i:=0) (by simp);rw[jL,jA]at rw7;have rk7:=fun (w:World) (h:NwR w4 w 78 102 (.slice (some ⟨nb,no,.none⟩) 1 nc) [ndA (.leaf e.1 e.2) vv])=>h.rd.fld (P:=prog) (t:=3) agg3 (i:=0) (by simp) (j:=0) (by decide) (x:=.int .i64 1) rfl;simp only[jL,jA]at rk7;have rk7':=rk7 w7 hnv6;simp -implicitDefEqProofs only[go_sem,jY,gLa,gLz,gLs,jA,OT.row,y1,and_self,vQ,jL,jA,rw7,rk7',a1];constructor
   ·refine qQf pl58 ((load9leaf w7 hkl ovv hvv6 (by omega)).mono ?_);rintro v8 w8 ⟨b8,f8⟩
    refine⟨(fun h=>by cases h),?_⟩;have rk8:=rk7 w8 (hnv6.fr0 f8);simp -implicitDefEqProofs only[go_sem,jY,gLa,gLz,gLs];refine qQf pl57 ((page5 w8 (hdv.no (f06.trans f8)) 1 2 (NwB.by b8) (by rw[lAp];omega) (by decide)).mono ?_);rintro v9 w9 ⟨b9,f9⟩;refine⟨(fun h=>by cases h),?_⟩;have f69:No w6 w9:=(f66.trans f8).trans f9;obtain⟨va,wa,hra,ba,fa,ga,_⟩:=NwB.catB (P:=prog) app22_22 (NwB.nil w6 w9) (NwB.by b9) (by rw[qJc (by rw[lAp];omega)];decide) f69;rw[zS]at ba;simp -implicitDefEqProofs only[go_sem,jY,gLa,gLz,gLs];refine qZq ⟨va,wa,hra,?_⟩;refine⟨(fun h=>by cases h),?_⟩;have a2:IntKind.i64.wrap ((0:Int)+1)=((1:Nat):Int):=rfl;simp -implicitDefEqProofs only[go_sem,jY,gLa,gLz,gLs,a2];exact⟨0,by decide,.inr ⟨rfl,va,rfl,ba,fa⟩⟩
   ·refine qQf pl58 ((load9leaf w7 hkl ovv hvv6 (by omega)).mono ?_);rintro v8 w8 ⟨b8,f8⟩
    refine⟨(fun h=>by cases h),?_⟩;have rk8:=rk7 w8 (hnv6.fr0 f8);simp -implicitDefEqProofs only[go_sem,jY,gLa,gLz,gLs,rk8,implies_true,true_and];refine qQf pl57 ((page5 w8 (hdv.no (f06.trans f8)) 1 2 (NwB.by b8) (by rw[lAp];omega) (by decide)).mono ?_);rintro v9 w9 ⟨b9,f9⟩;refine⟨(fun h=>by cases h),?_⟩;have f69:No w6 w9:=(f66.trans f8).trans f9;obtain⟨va,wa,hra,ba,fa,ga,_⟩:=NwB.catB (P:=prog) app22_22 (NwB.nil w6 w9) (NwB.by b9) (by rw[qJc (by rw[lAp];omega)];decide) f69;rw[zS]at ba;simp -implicitDefEqProofs only[go_sem,jY,gLa,gLz,gLs];refine qZq ⟨va,wa,hra,?_⟩;refine⟨(fun h=>by cases h),?_⟩;have a2:IntKind.i64.wrap ((0:Int)+1)=((1:Nat):Int):=rfl;simp -implicitDefEqProofs only[go_sem,jY,gLa,gLz,gLs,a2];exact⟨0,by decide,.inr ⟨rfl,va,rfl,ba,fa⟩⟩
  ·have d11:decide (((1:Nat):Int)<((1:Nat):Int))=false:=rfl
   have hkl:e.1.length=32:=by obtain⟨_,_,_,_,_,_,h,_⟩:=hm.at (i:=0) (by simp);exact h
   obtain⟨ma,mc,rfl,_⟩:=hm.slice;have f16:No w1 w6:=(f3.trans f5).trans f6;have kt6:=f6.at kt2 id;have ktb:=f6.at (f5.at k3 id) id;have lt6:=qQo (P:=prog) (t:=141) agg141 sz141 kt6;have q6:wrO prog 141 w6 w1.heap.size 0 (.agg #[vi 2,.slice ma ([e]:List (Bs × Bs)).length mc,sv])=some (put w6 w1.heap.size (.cells #[vi 2,.slice ma ([e]:List (Bs × Bs)).length mc,sv] 141 (0,0))):=qQr sz141 ktb rfl (by rw[← vM];show (true && (true && (one sv && true)))=true;rw[osv];rfl);have k7:=qQd (o:=.cells #[vi 2,.slice ma ([e]:List (Bs × Bs)).length mc,sv] 141 (0,0)) ktb;have f17:No w1 (put w6 w1.heap.size (.cells #[vi 2,.slice ma ([e]:List (Bs × Bs)).length mc,sv] 141 (0,0))):=f16.put (b:=w1.heap.size) _ fun h=>by omega
   have hs5:=qQh (f5.at k3 id);have hout7:=hout.fr (w':=put w6 w1.heap.size (.cells #[vi 2,.slice ma ([e]:List (Bs × Bs)).length mc,sv] 141 (0,0))) (F:=fun b=>b=w1.heap.size) ((Fr.refl _ _).put (b:=w1.heap.size) _ fun _=>rfl) fun b hb he=>by have:=Nw.new hout b hb;omega
   have a3:IntKind.i64.wrap ((2:Int)+((1:Nat):Int))=((3:Nat):Int):=rfl;simp -implicitDefEqProofs only[go_sem,jY,gLa,gLz,d11,lt6,q6,a3];generalize put w6 w1.heap.size (.cells #[vi 2,.slice ma ([e]:List (Bs × Bs)).length mc,sv] 141 (0,0))=w7 at *;refine qXc (Q:=fun e' ev w8=>e'=.normal∧ImC w7 wd (.slice (some ⟨b,o,.none⟩) 1 cap) esv out w1.heap.size D (ev 0) (ev 1) (ev 2) (ev 8) (ev 9) (ev 10) (ev 11) (ev 12) (ev 13) (ev 14) (ev 18) w8) _ (fun e' ev w8=>?_) ?_
   ·rintro⟨rfl,rb,e0,e1,e2,e8,e9,e10,e11,e12,e13,e14,e18,f78,hrb,krb⟩
    rw[thenQ_normal];have c00:((0:Nat):Int) == 0:=rfl;have rcl:∀ v f,(rcC ⟨v,f,0,0,2,1,D⟩).length=38:=fun v f=>qXh hDl;have q8:wrO prog 3 w8 rb 0 (.int .i64 1)=some (put w8 rb (.cells (rcC ⟨1,0,0,0,2,1,D⟩).toArray 80 (0,0))):=wr1 sz3 rfl krb (by simp[rcl]);have k8:=qQd (o:=.cells (rcC ⟨1,0,0,0,2,1,D⟩).toArray 80 (0,0)) krb;have f8:Fr (fun b=>b=rb) w8 (put w8 rb (.cells (rcC ⟨1,0,0,0,2,1,D⟩).toArray 80 (0,0))):=(Fr.refl _ _).put (b:=rb) _ fun _=>rfl;have n8:No w7 (put w8 rb (.cells (rcC ⟨1,0,0,0,2,1,D⟩).toArray 80 (0,0))):=f78.put (b:=rb) _ fun h=>by omega
    simp -implicitDefEqProofs only[go_sem,jY,zB,e1,c00,e18,q8];generalize put w8 rb (.cells (rcC ⟨1,0,0,0,2,1,D⟩).toArray 80 (0,0))=w9 at *;have l9:=qQo (P:=prog) (t:=80) agg80 sz80 k8 (by simp[rcl]);simp -implicitDefEqProofs only[go_sem,jY,e10,e11,l9];refine qQa pl60 ((follow0 w9 (r:=⟨1,0,0,0,2,1,D⟩) hDl).mono ?_);rintro _ wa ⟨rfl,fa⟩;have ka:=fa.at k8 id;have qa:wrO prog 80 wa rb 0 (.agg (rcC ⟨1,0,0,0,2,1,D⟩).toArray)=some (put wa rb (.cells (rcC ⟨1,0,0,0,2,1,D⟩).toArray 80 (0,0))):=qQr (by simp[rcl];exact sz80) ka (by simp[rcl]) (by simpa using qJp _);have kb:=qQd (o:=.cells (rcC ⟨1,0,0,0,2,1,D⟩).toArray 80 (0,0)) ka;have nb7:No w7 (put wa rb (.cells (rcC ⟨1,0,0,0,2,1,D⟩).toArray 80 (0,0))):=(n8.trans fa).put (b:=rb) _ fun h=>by omega
    simp -implicitDefEqProofs only[go_sem,jY,e18,qa];generalize put wa rb (.cells (rcC ⟨1,0,0,0,2,1,D⟩).toArray 80 (0,0))=wb at *;have lb:=qQo (P:=prog) (t:=80) agg80 sz80 kb (by simp[rcl]);simp -implicitDefEqProofs only[go_sem,e9,e13,lb];refine qQa pl61 ((load15 wb (r:=⟨1,0,0,0,2,1,D⟩) hDl (by simp)).mono ?_);rintro vc wc ⟨bc,fc⟩;simp -implicitDefEqProofs only[go_sem,jY];have f0c:No w wc:=((f1.trans f17).trans nb7).trans fc;have hll:(lodR ⟨1,0,0,0,2,1,D⟩).length=56:=lodR_len hDl;refine qQa pl57 ((page5 wc (hdv.no f0c) 3 3 (NwB.by bc) (by omega) (by decide)).mono ?_);rintro vd wd' ⟨bd,fd⟩;simp -implicitDefEqProofs only[go_sem,jY];have f15':No w1 w5:=f3.trans f5;have hout8:NwB w1 wd' out (pagB 1 2 (e.1++e.2)):=NwB.back (((hout7.fr0 nb7).fr0 fc).fr0 fd) f15'.size;have f1d:No w1 wd':=((f17.trans nb7).trans fc).trans fd;obtain⟨ve,we,hre,be,fe,ge,_⟩:=NwB.catB (P:=prog) app22_22 hout8 (NwB.by bd) (by rw[qJc (by rw[lAp];omega),qJc (by omega)];decide) f1d;refine qQj ⟨ve,we,hre,?_⟩;have hob:∀ b,qQg out=some b→b≠rb:=fun b hb he=>by have:=(NwB.lt hout7 hb).2;omega
    have ke:=ge.at (fd.at (fc.at kb id) id) fun h=>hob _ h rfl;have le:=qQo (P:=prog) (t:=80) agg80 sz80 ke (by simp[rcl]);obtain⟨vf,wf,hrf,bf,gf,mf⟩:=(NwR.nil we we 80 38).push (P:=prog) app89_89 (xs:=rcC ⟨1,0,0,0,2,1,D⟩) (rcl 1 0) (qJp _) (by decide) (by simp) (by simp) (xT _);have gf:No we wf:=gf.mono fun b _ e=>by cases e
    simp -implicitDefEqProofs only[go_sem,jY,jH,zB,qQk,e18,e10,le];refine qQp (v:=.slice (some ⟨we.heap.size,0,none⟩) 1 1) (w':=we.alloc (.cells (rcC ⟨1,0,0,0,2,1,D⟩).toArray 80)) (qZk (K:=38) (by decide) (by decide) (y:=rcC rc00) (qXh z32l) (by simp[]) (by simp[rcl]) _) ?_;simp -implicitDefEqProofs only[go_sem,jY];refine qQj ⟨vf,wf,hrf,?_⟩;obtain⟨vg,wg,hrg,bg,gg,mg⟩:=(NwR.nil wf wf 3 1).push (P:=prog) app45_45 (xs:=[vi 3]) rfl rfl (by decide) (by simp) (by simp) (xT _);have gg:No wf wg:=gg.mono fun b _ e=>by cases e
    simp -implicitDefEqProofs only[go_sem,jY,jH,zB,e11,e13];refine qQp (v:=.slice (some ⟨wf.heap.size,0,none⟩) 1 1) (w':=wf.alloc (.cells #[vi 3] 3)) (qZk (K:=1) (by decide) (by decide) (y:=[.int .i64 0]) rfl rfl rfl _) ?_;simp -implicitDefEqProofs only[go_sem,jY];refine qQj ⟨vg,wg,hrg,?_⟩;have a4:IntKind.i64.wrap (((3:Nat):Int)+1)=((4:Nat):Int):=rfl;have a5:IntKind.i64.wrap ((0:Int)+1)=((1:Nat):Int):=rfl;simp -implicitDefEqProofs only[go_sem,jY,e13,e14,a4,a5];refine⟨0,by decide,.inr ⟨rfl,ve,vf,vg,?_,?_,?_⟩⟩
    ·simp -implicitDefEqProofs only[go_sem,e0,e1,e2,e8,e12]
    ·exact NwB.back ((be.fr0 gf).fr0 gg) f1.size
    ·exact (f1.trans fe).trans (gf.trans gg)
   ·refine qXf (fun j=>j == 15 || j == 17) (.one 0 (.one 1 (.one 2 (.one 4 (.one 5 (.one 6 (.one 9 (.one 10 (.one 11 (.one 12 (.one 13 (.one 3 (.one 7 (.one 8 (.one 14 (.two 15 (.row [16,17,18]) 17 (.row [15,16,18])))))))))))))))))  rfl (by kernel_rfl) (by kernel_rfl) ?_
    have fd:No w7 w7.drew:=(Fr.refl _ _).drew;have k8:w7.drew.heap[w1.heap.size]?=_:=k7;have s8:w7.drew.heap.size=w7.heap.size:=rfl;generalize w7.drew=w8 at *;have f08:No w w8:=(f1.trans f17).trans fd;have r8:rdO prog 3 w8 w1.heap.size 0=some (vi 2):=rd1 agg3 k8 rfl;have rm8:=hms w8 f08;have bR:bldO prog 80 [(0,vi 0),(1,vi 0),(4,vi 2),(5,vi ([e]:List (Bs × Bs)).length),(6,dg D)]=some (.agg (rcC ⟨0,0,0,0,2,1,D⟩).toArray):=bldR5 (v:=0) (f:=0) (ro:=2) (c:=1) hDl;have he8:RdD w8 esv (empts wd 257):=he.rd.fr0 (f17.trans fd);have rcl:(rcC ⟨0,0,0,0,2,1,D⟩).length=38:=qXh hDl;have hz:=rcZero;simp -implicitDefEqProofs only[go_sem,jY,jG,gLa,gLz,gLs,jH,bSe,zB,qQk,OT.row,y1,and_self,vQ,jL,r8,rm8,hz];constructor
    ·refine qQf pl59 ((rootWith1 w8 (ht.no f08) wd he8 (hm.fr0 f08) (by omega) hD hDl).mono ?_);rintro _ w9 ⟨rfl,f9⟩
     refine⟨fun _=>Fr.ext f9,?_⟩;obtain⟨Wa,hWa,fa,ka,sa⟩:=qQl w9 (rcC rc00).toArray 80;have qa:wrO prog 80 Wa w9.heap.size 0 (.agg (rcC ⟨0,0,0,0,2,1,D⟩).toArray)=some (put Wa w9.heap.size (.cells (rcC ⟨0,0,0,0,2,1,D⟩).toArray 80 (0,0))):=qQr (by simp[rcl];exact sz80) ka (by simp[rcl,qXh (r:=rc00) z32l]) (by simpa using qJp _);have ea:=fa.ext;have fb:No w9 (put Wa w9.heap.size (.cells (rcC ⟨0,0,0,0,2,1,D⟩).toArray 80 (0,0))):=fa.put (b:=w9.heap.size) _ fun h=>by omega
     have s9:=f9.size;simp -implicitDefEqProofs only[go_sem,jY,jG,gLa,gLz,gLs,jH,bSe,qQk,bR,hz,hWa,qa,ea,implies_true,true_and];exact⟨w9.heap.size,rfl,rfl,rfl,rfl,rfl,rfl,rfl,rfl,rfl,rfl,rfl,(fd.trans f9).trans fb,by omega,qQd ka⟩
    ·obtain⟨Wa,hWa,fa,ka,sa⟩:=qQl w8 (rcC rc00).toArray 80
     have ea:=fa.ext;simp -implicitDefEqProofs only[go_sem,hWa];refine qQf pl59 ((rootWith1 Wa (ht.no (f08.trans fa)) wd (he8.fr0 fa) (hm.fr0 (f08.trans fa)) (by omega) hD hDl).mono ?_);rintro _ w9 ⟨rfl,f9⟩;refine⟨fun _=>Fr.ext f9,?_⟩;have ka9:=f9.at ka id;have qa:wrO prog 80 w9 w8.heap.size 0 (.agg (rcC ⟨0,0,0,0,2,1,D⟩).toArray)=some (put w9 w8.heap.size (.cells (rcC ⟨0,0,0,0,2,1,D⟩).toArray 80 (0,0))):=qQr (by simp[rcl];exact sz80) ka9 (by simp[rcl,qXh (r:=rc00) z32l]) (by simpa using qJp _);have fb:No w8 (put w9 w8.heap.size (.cells (rcC ⟨0,0,0,0,2,1,D⟩).toArray 80 (0,0))):=(fa.trans f9).put (b:=w8.heap.size) _ fun h=>by omega
     simp -implicitDefEqProofs only[go_sem,jY,jG,gLa,gLz,gLs,bR,qa];exact⟨w8.heap.size,rfl,rfl,rfl,rfl,rfl,rfl,rfl,rfl,rfl,rfl,rfl,fd.trans fb,by omega,qQd ka9⟩
 ·refine qXf (fun j=>j == 12) (.one 0 (.one 1 (.one 3 (.one 4 (.one 5 (.one 6 (.one 2 (.one 7 (.two 8 (.row [9,10,11,12,13,14]) 12 (.row [8,9,10,11,13,14])))))))))) rfl (by kernel_rfl) (by kernel_rfl) ?_
  have fd:No w4 w4.drew:=(Fr.refl _ _).drew;have s4:w4.drew.heap.size=w4.heap.size:=rfl;have k4:w4.drew.heap[w1.heap.size]?=_:=k3;generalize w4.drew=w5 at *;have f05:=f03.trans fd;have l5:=qQo (P:=prog) (t:=141) agg141 sz141 k4;have rm:=hms w5 f05;simp -implicitDefEqProofs only[go_sem,jY,jG,gLa,gLz,gLs,jH,bSe,OT.row,l5,y1,and_self,vQ,jL,rm];constructor
  ·refine qQf pl56 ((step1 w5 (ht.no f05) (by decide) (he3.fr0 fd) (hm.fr0 f05) hl hD hDl (next:=2)).mono ?_);rintro _ w6 ⟨f6,vv,nv,sv,rfl,onv,osv,ovv,hvv,hnv,hsv⟩
   refine⟨(fun h=>by cases h),?_⟩;obtain⟨W7,hW7,f7,k7,s7⟩:=qQl w6 tr0 141;have q7:wrO prog 141 W7 w6.heap.size 0 (.agg #[vi 2,mv,sv])=some (put W7 w6.heap.size (.cells #[vi 2,mv,sv] 141 (0,0))):=qQr sz141 k7 rfl (by rw[← vM];show (true && (one mv && (one sv && true)))=true;rw[omv,osv];rfl);have e7:=f7.ext;have f67:No w6 (put W7 w6.heap.size (.cells #[vi 2,mv,sv] 141 (0,0))):=f7.put (b:=w6.heap.size) _ fun h=>by omega
   have s6:=f6.size;simp -implicitDefEqProofs only[go_sem,jY,jG,gLa,gLz,gLs,jH,bSe,hW7,q7,e7,implies_true,true_and];exact⟨w6.heap.size,nv,sv,rfl,rfl,rfl,rfl,rfl,rfl,rfl,rfl,rfl,rfl,rfl,rfl,(fd.trans f6).trans f67,by omega,qQd k7,osv,vv,ovv,(hvv.fr0 f6).fr0 f67,(hnv.fr0 f67).back fd.size⟩
  ·obtain⟨W7,hW7,f7,k7,s7⟩:=qQl w5 tr0 141
   have e7:=f7.ext;simp -implicitDefEqProofs only[go_sem,hW7];refine qQf pl56 ((step1 W7 (ht.no (f05.trans f7)) (by decide) (he3.fr0 (fd.trans f7)) (hm.fr0 (f05.trans f7)) hl hD hDl (next:=2)).mono ?_);rintro _ w6 ⟨f6,vv,nv,sv,rfl,onv,osv,ovv,hvv,hnv,hsv⟩;refine⟨(fun h=>by cases h),?_⟩;have k76:=f6.at k7 id;have q7:wrO prog 141 w6 w5.heap.size 0 (.agg #[vi 2,mv,sv])=some (put w6 w5.heap.size (.cells #[vi 2,mv,sv] 141 (0,0))):=qQr sz141 k76 rfl (by rw[← vM];show (true && (one mv && (one sv && true)))=true;rw[omv,osv];rfl);have f67:Fr (fun b=>b=w5.heap.size) w6 (put w6 w5.heap.size (.cells #[vi 2,mv,sv] 141 (0,0))):=(Fr.refl _ _).put (b:=w5.heap.size) _ fun _=>rfl;have f57:No w5 (put w6 w5.heap.size (.cells #[vi 2,mv,sv] 141 (0,0))):=(f7.trans f6).put (b:=w5.heap.size) _ fun h=>by omega
   simp -implicitDefEqProofs only[go_sem,jY,jG,gLa,gLz,gLs,q7];refine⟨w5.heap.size,nv,sv,rfl,rfl,rfl,rfl,rfl,rfl,rfl,rfl,rfl,rfl,rfl,rfl,fd.trans f57,by omega,qQd k76,osv,vv,ovv,?_,?_⟩
   ·exact by_frn (hvv.fr0 f6) f67 fun h0 b hb he=>by
     subst he
     exact by_off hvv h0 k7 (fun i n hi=>by
       match i,hi with
       | 0,hi=>cases hi
       | 1,hi=>cases hi
       | 2,hi=>cases hi
       | i+3,hi=>cases hi) hb
   ·exact ((hnv.fr f67 fun b hb he=>by have:=hnv.2.new b hb;omega).back (by have:=(fd.trans f7).size;exact this))
end R
end
section
namespace R
open Aud A
theorem bldS4 (a b c d:Int):bldO prog 67 [(0,.int .i64 a),(1,.int .i64 b),(2,.int .i64 c),(4,.int .i64 d)]=some (.agg #[.int .i64 a,.int .i64 b,.int .i64 c,.int .i64 0,.int .i64 d]):=by
 unfold bldO;rw[zero67,places67];rfl
def dkI (w0:World)(a b c:Value)(P:Bs)(n:Nat)(vs:List Value)(w:World):Prop :=
 ∃ (i:Nat) (v:Value),vs=[.int .i64 5,v]∧i≤256∧n=256 - i∧NwB w0 w v (P++zV i 0)∧No w0 w
theorem sl0 (b o:Nat)(h:1≤cap):qQs prog 37 (.slice (some ⟨b,o,vD⟩) 1 cap) vD (some (.int .i64 0)) vD=some (V.cutV 1 (some ⟨b,o,vD⟩) cap 0 0) :=
 slc_hi slc37 arr37 sz84 (l:=0) (n:=1) (by decide) h
theorem cut0 (a:Option Addr)(cap:Nat):∃ a0,V.cutV 1 a cap 0 0=.slice a0 0 (cap - 0):=⟨_,rfl⟩
theorem disk1 (w:World)(ht:Tabs w)(hdv:DivT w)(hms:∀ w', No w w'→rdO prog 84 w' b o=some mv)(hm:EnR w mv [(kz, [7])])
  (hD:climb 3 kz 0 (leafD 3 kz [7]) ((empts 3 257).take 256)=D) (hDl:D.length=32) (hcap:1≤cap) :
  Fn prog 14 #[.int .i64 3,.int .i64 0,.slice (some ⟨b,o,.none⟩) 1 cap,.int .i64 5] w fun v w'=>NwB w w' v (smI D)∧No w w':=by
 refine go14 (by simp) ?_;simp -implicitDefEqProofs only[go_sem,jY,y7,zB,Tryz.f14];refine qQa pl30 ((image1 w ht hdv 3 hms hm (by simp) hD hDl).mono ?_);rintro _ w1 ⟨out,rfl,hout,f1⟩;have d1:decide (((4:Nat):Int) > 5)=false:=rfl;have d2:decide ((5:Int)<3)=false:=rfl;have d3:decide ((5:Int) > 4096)=false:=rfl;have d4:decide (((1:Nat):Int) > 0)=true:=rfl;have a1:IntKind.i64.wrap (((1:Nat):Int) - 1)=0:=rfl;have hsl:=sl0 b o hcap;generalize hz0:V.cutV 1 (some ⟨b,o,.none⟩) cap 0 0=z0 at hsl;have sl:=hsl;have hz1:=cut0 (some ⟨b,o,.none⟩) cap;rw[hz0]at hz1;simp -implicitDefEqProofs only[go_sem,jY,gLa,gLz,gLs,bSe,d1,d2,d3,d4,a1,sl];clear hsl sl hz0
 cases hz1 with
 | intro a0 hz1 =>
 subst hz1;refine qQa pl30 ((image0 w1 (ht.no f1) 3 0 a0 (cap - 0)).mono ?_);rintro _ w2 ⟨rfl,f2⟩;have a2:IntKind.i64.wrap (1+((1:Nat):Int))=2:=rfl;have a3:IntKind.i64.wrap ((2:Int) - 1)=1:=rfl;have b1:=bldS4 3 2 ((4:Nat):Int) 5;have b2:=bldS4 3 1 ((2:Nat):Int) 5;have f12:=f1.trans f2;refine Exists.elim (qQl w2 #[.int .i64 0,.int .i64 0,.int .i64 0,.int .i64 0,.int .i64 0] 67) fun W3 hW3x=>?_;have hW3:=hW3x.1;have f3:=hW3x.2.1;have k3:=hW3x.2.2.1;have s3:=hW3x.2.2.2;have q3:wrO prog 67 W3 w2.heap.size 0 (.agg #[.int .i64 3,.int .i64 2,.int .i64 ((4:Nat):Int),.int .i64 0,.int .i64 5])=some (put W3 w2.heap.size (.cells #[.int .i64 3,.int .i64 2,.int .i64 ((4:Nat):Int),.int .i64 0,.int .i64 5] 67 (0,0))):=qQr sz67 k3 rfl (by rw[← vM];rfl);have k4:=qQd (o:=.cells #[.int .i64 3,.int .i64 2,.int .i64 ((4:Nat):Int),.int .i64 0,.int .i64 5] 67 (0,0)) k3;have f4:No w2 (put W3 w2.heap.size (.cells #[.int .i64 3,.int .i64 2,.int .i64 ((4:Nat):Int),.int .i64 0,.int .i64 5] 67 (0,0))):=f3.put (b:=w2.heap.size) _ fun h=>by omega
 have s4:(put W3 w2.heap.size (.cells #[.int .i64 3,.int .i64 2,.int .i64 ((4:Nat):Int),.int .i64 0,.int .i64 5] 67 (0,0))).heap.size=W3.heap.size:=put_heap_size ..;simp -implicitDefEqProofs only[go_sem,jY,gLa,gLz,gLs,jH,a2,a3,b1,b2,hW3,q3];generalize put W3 w2.heap.size (.cells #[.int .i64 3,.int .i64 2,.int .i64 ((4:Nat):Int),.int .i64 0,.int .i64 5] 67 (0,0))=w4 at *;refine Exists.elim (qQl w4 #[.int .i64 0,.int .i64 0,.int .i64 0,.int .i64 0,.int .i64 0] 67) fun W5 hW5x=>?_;have hW5:=hW5x.1;have f5:=hW5x.2.1;have k5:=hW5x.2.2.1;have s5:=hW5x.2.2.2;rw[s4]at k5;have q5:wrO prog 67 W5 W3.heap.size 0 (.agg #[.int .i64 3,.int .i64 1,.int .i64 ((2:Nat):Int),.int .i64 0,.int .i64 5])=some (put W5 W3.heap.size (.cells #[.int .i64 3,.int .i64 1,.int .i64 ((2:Nat):Int),.int .i64 0,.int .i64 5] 67 (0,0))):=qQr sz67 k5 rfl (by rw[← vM];rfl);have k6:=qQd (o:=.cells #[.int .i64 3,.int .i64 1,.int .i64 ((2:Nat):Int),.int .i64 0,.int .i64 5] 67 (0,0)) k5;have f6:No w4 (put W5 W3.heap.size (.cells #[.int .i64 3,.int .i64 1,.int .i64 ((2:Nat):Int),.int .i64 0,.int .i64 5] 67 (0,0))):=f5.put (b:=W3.heap.size) _ fun h=>by omega
 have k46:=f6.at k4 id;have d5:decide (((4:Nat):Int) > 2)=true:=rfl;have d6:decide (((2:Nat):Int) > 2)=false:=rfl;have a4:IntKind.i64.wrap (((4:Nat):Int) - 1)=3:=rfl;simp -implicitDefEqProofs only[go_sem,jY,zB,hW5,q5,d5,a4];generalize put W5 W3.heap.size (.cells #[.int .i64 3,.int .i64 1,.int .i64 ((2:Nat):Int),.int .i64 0,.int .i64 5] 67 (0,0))=w6 at *;have q7:wrO prog 3 w6 w2.heap.size 3 (.int .i64 3)=some (put w6 w2.heap.size (.cells #[.int .i64 3,.int .i64 2,.int .i64 ((4:Nat):Int),.int .i64 3,.int .i64 5] 67 (0,0))):=wr1 sz3 rfl k46 (show 3<5 by decide);have k7:=qQd (o:=.cells #[.int .i64 3,.int .i64 2,.int .i64 ((4:Nat):Int),.int .i64 3,.int .i64 5] 67 (0,0)) k46;have k67:=qQi (b:=w2.heap.size) (o:=.cells #[.int .i64 3,.int .i64 2,.int .i64 ((4:Nat):Int),.int .i64 3,.int .i64 5] 67 (0,0)) k6 (by have:=qQh k4;rw[s4]at this;omega);have f7:No w2 (put w6 w2.heap.size (.cells #[.int .i64 3,.int .i64 2,.int .i64 ((4:Nat):Int),.int .i64 3,.int .i64 5] 67 (0,0))):=(f4.trans f6).put (b:=w2.heap.size) _ fun h=>by omega
 have d7:decide ((2:Int) > 2)=false:=rfl;simp -implicitDefEqProofs only[go_sem,jY,q7,d6];generalize put w6 w2.heap.size (.cells #[.int .i64 3,.int .i64 2,.int .i64 ((4:Nat):Int),.int .i64 3,.int .i64 5] 67 (0,0))=w7 at *;have l7:=qQo (P:=prog) (t:=67) agg67 sz67 k7;simp -implicitDefEqProofs only[go_sem,l7];refine qQa pl31 ((super5 w7 (hdv.no (f12.trans f7)) smS (by decide)).mono ?_);rintro va w8 ⟨ba,f8⟩;have l8:=qQo (P:=prog) (t:=67) agg67 sz67 (f8.at k67 id);simp -implicitDefEqProofs only[go_sem,jY,l8];refine qQa pl31 ((super5 w8 (hdv.no ((f12.trans f7).trans f8)) smW (by decide)).mono ?_);rintro vb w9 ⟨bb,f9⟩;have n2:((2:Int)=0)=False:=by simp
 have d8:(((2:Int).tmod 2) == 1)=false:=rfl;have sa:=supB_len smS;have sb:=supB_len smW
 have ho:(im1 kz [7] D).length=512:=by
  unfold im1;rw[lAp,qJc (by decide),qJc (by rw[lodR_len hDl];decide)]
 have hsm:smI D=supB smS++supB smW++im1 kz [7] D++zV 256 0:=by
  unfold smI im1 smR;simp only[List.append_assoc]
 rw[hsm];generalize supB smS=SA at *;generalize supB smW=SB at *;generalize im1 kz [7] D=SO at *;have f29:No w2 w9:=(f7.trans f8).trans f9;have f09:No w w9:=f12.trans f29;have hc1:=NwB.catB (P:=prog) app22_22 (NwB.nil w w9) (ba.by.fr0 f9) (by rw[sa];decide) f09;simp -implicitDefEqProofs only[go_sem,jY,n2,if_false,d8];refine Exists.elim hc1 fun v1 hc1=>Exists.elim hc1 fun u1 hc1=>?_;have g1:No w9 u1:=hc1.2.2.2.1.mono fun b _ e=>by cases e
 have h1n:NwB w u1 v1 SA:=by have:=hc1.2.1;rwa [zS]at this
 have m1:∀ b,qQg v1=some b→w9.heap.size≤b:=fun b hb=>(hc1.2.2.2.2 b hb).resolve_left fun e=>by cases e
 refine qQj ⟨v1,u1,hc1.1,?_⟩;have hc2:=NwB.catB (P:=prog) app22_22 h1n (bb.by.fr0 g1) (by rw[sa,sb];decide) (f09.trans g1);simp -implicitDefEqProofs only[go_sem,jY];refine Exists.elim hc2 fun v2 hc2=>Exists.elim hc2 fun u2 hc2=>?_;refine qQj ⟨v2,u2,hc2.1,?_⟩;have ho1:By u1 out SO:=hout.by.fr0 ((f2.trans f29).trans g1)
 have ho2:By u2 out SO:=by_frn ho1 hc2.2.2.2.1 fun _ b hb e=>by
  have:=m1 b e;have:=(NwB.lt hout hb).2;have:=(f2.trans f29).size;omega
 have hc3:=NwB.catB (P:=prog) app22_22 hc2.2.1 ho2 (by rw[lAp,sa,sb,ho];decide) hc2.2.2.1;simp -implicitDefEqProofs only[go_sem,jY];refine Exists.elim hc3 fun v3 hc3=>Exists.elim hc3 fun u3 hc3=>?_;refine qQj ⟨v3,u3,hc3.1,?_⟩;have hPl:(SA++SB++SO).length=1024:=by rw[lAp,lAp,sa,sb,ho]
 simp -implicitDefEqProofs only[go_sem];refine loopD [3,17] (dkI w nil0 nil0 nil0 (SA++SB++SO)) 256 ⟨0,v3,rfl,by decide,rfl,by rw[List.replicate_zero,List.append_nil];exact hc3.2.1,hc3.2.2.1⟩ ?_;rintro _ vs w5 g ⟨i,v,rfl,hi,rfl,b5,f5⟩;obtain⟨va',vc',rfl⟩:=b5.slice;have hl5:(SA++SB++SO++zV i 0).length=1024+i:=by rw[lAp,hPl,lRe]
 rw[hl5]at b5 ⊢;have a6:IntKind.i64.wrap (256*(5:Int))=((1280:Nat):Int):=rfl;have dl:=natlt (1024+i) 1280
 by_cases hil:1024+i<1280
 ·rw[decide_eq_true hil]at dl
  have hg:=NwB.grow b5 0 (by rw[hl5];omega) f5;rw[List.append_assoc,show (zV i (0:Byte))++[0]=zV (i+1) 0 from (List.replicate_succ' ..).symm]at hg;obtain⟨v6,w6,hr6,b6,f6,_,_⟩:=hg;simp -implicitDefEqProofs only[go_sem,jY,gLa,gLz,jH,zB,a6,dl];refine qQp (v:=.slice (some ⟨w5.heap.size,0,none⟩) 1 1) (w':=w5.alloc (.cells (bl [0]) 5)) rfl ?_;simp -implicitDefEqProofs only[go_sem,jY];refine qQj ⟨v6,w6,hr6,?_⟩;simp -implicitDefEqProofs only[go_sem,jY];exact⟨256 - (i+1),by omega,i+1,v6,rfl,by omega,rfl,b6,f6⟩
 ·rw[decide_eq_false hil]at dl
  have hi6:i=256:=by omega
  subst hi6;simp -implicitDefEqProofs only[go_sem,jY,y7,gLa,gLz,a6,dl];exact⟨b5,f5⟩
end R
end
section
namespace R
open Aud A
theorem kz_len:kz.length=32:=by decide
theorem enPlaces:qQy prog 83=some [(0,32),(32,1)]:=by kernel_rfl
theorem bldEn {a:Option Addr}{n c:Nat}:bldO prog 83 [(1,.slice a n c)]=some (.agg (enRow (kz,[7]) (.slice a n c)).toArray):=by
 rw[qJw zero83 enPlaces (c:=(enRow (kz,[7]) nil0).toArray) (by kernel_rfl)];have g0:=qZw (ps:=fun i=>[(0,32),(32,1)][i]?) (i:=1) (o:=32) (a:=kz.map u8) (r:=[]) (u:=nil0) (v:=.slice a n c) (rest:=[]) rfl (by rw[List.length_map];exact kz_len) rfl;rw[qZf]at g0;exact congrArg (Option.map Value.agg) g0
theorem enR_one {vv:Value}(hk:e.1.length=32)(ov:one vv=true)(hv:By w vv e.2){el:TypeId}(h:w.heap[b]?=some (.cells (enRow e vv).toArray el fz)):EnR w (.slice (some ⟨b,0,vD⟩) 1 1) [e]:=by
 refine⟨[enRow e vv],⟨?_,?_⟩,rfl,fun i a b'=>?_⟩
 ·refine RowsOk.one (by simp[enRow,hk]) ?_
  unfold enRow;rw[List.all_append,qXy];simp[ov]
 ·refine⟨by simp[enRow,hk],_,_,rfl,xT _,fun _=>⟨_,_,rfl,fun j hj=>?_⟩⟩
  rw[qXe h,zB,List.getElem?_toArray]
  simp
 ·have:i=0:=by simp at a;omega
  subst this;exact⟨vv,rfl,hk,ov,hv⟩
theorem small (w:World)(ht:Tabs w)(hdv:DivT w)(hD:climb 3 kz 0 (leafD 3 kz [7]) ((empts 3 257).take 256)=D)(hDl:D.length=32) :
  Fn prog 9 #[] w fun v w'=>NwB w w' v (smI D)∧No w w':=by
 refine go9 (by simp) ?_;simp -implicitDefEqProofs only[go_sem,jH,zB,Tryz.f9];refine qQp (v:=.slice (some ⟨w.heap.size,0,none⟩) 1 1) (w':=w.alloc (.cells (bl [7]) 5)) rfl ?_;have k1:(w.alloc (.cells (bl [7]) 5)).heap[w.heap.size]?=some (.cells (bl [7]) 5 (0,0)):=qQb _ _;have f1:No w (w.alloc (.cells (bl [7]) 5)):=(Fr.refl _ _).alloc _;generalize w.alloc (.cells (bl [7]) 5)=w1 at *;have h1:=row_by (m:=1) (cap:=1) k1 (by simp) (xT _);rw[List.take_of_length_le (by simp)]at h1;have b1:=bldEn (a:=some ⟨w.heap.size,0,.none⟩) (n:=1) (c:=1);generalize hvv:Value.slice (some ⟨w.heap.size,0,.none⟩) 1 1=vv at *;have ov:one vv=true:=by rw[← hvv];rfl
 have rl:(enRow (kz,[7]) vv).length=33:=by simp[enRow,kz_len]
 simp -implicitDefEqProofs only[go_sem,jH,zB,qQk,b1];refine qQp (v:=.slice (some ⟨w1.heap.size,0,none⟩) 1 1) (w':=w1.alloc (.cells (enRow (kz,[7]) vv).toArray 83)) (qZk (K:=33) (by decide) (by decide) (y:=enRow (kz,[7]) nil0) (by rfl) (by rw[List.size_toArray];exact rl) (by rw[List.size_toArray];exact rl) _) ?_;have k2:(w1.alloc (.cells (enRow (kz,[7]) vv).toArray 83)).heap[w1.heap.size]?=some (.cells (enRow (kz,[7]) vv).toArray 83 (0,0)):=qQb _ _;have f2:No w1 (w1.alloc (.cells (enRow (kz,[7]) vv).toArray 83)):=(Fr.refl _ _).alloc _;generalize w1.alloc (.cells (enRow (kz,[7]) vv).toArray 83)=w2 at *;have hE:=enR_one kz_len ov (h1.fr0 f2) k2;simp -implicitDefEqProofs only[go_sem,jH,zB];refine qQp (v:=.slice (some ⟨w2.heap.size,0,none⟩) 1 1) (w':=w2.alloc (.cells #[.slice (some ⟨w1.heap.size,0,.none⟩) 1 1] 84)) rfl ?_;have k3:(w2.alloc (.cells #[.slice (some ⟨w1.heap.size,0,.none⟩) 1 1] 84)).heap[w2.heap.size]?=some (.cells #[.slice (some ⟨w1.heap.size,0,.none⟩) 1 1] 84 (0,0)):=qQb _ _;have f3:No w2 (w2.alloc (.cells #[.slice (some ⟨w1.heap.size,0,.none⟩) 1 1] 84)):=(Fr.refl _ _).alloc _;generalize w2.alloc (.cells #[.slice (some ⟨w1.heap.size,0,.none⟩) 1 1] 84)=w3 at *;simp -implicitDefEqProofs only[go_sem];have f03:=(f1.trans f2).trans f3;refine qQa pl14 ((disk1 w3 (ht.no f03) (hdv.no f03) (fun w' f=>rd1 agg84 (f.at k3 id) rfl) (hE.fr0 f3) hD hDl (xT _)).mono ?_);rintro v4 w4 ⟨b4,f4⟩;simp -implicitDefEqProofs only[go_sem];exact And.intro (NwB.back b4 f03.size) (f03.trans f4)
end R
end
end Go.V
