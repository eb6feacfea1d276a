/- Helpers. -/
import Derived.Test.YtmenaeggoakppaaGreatDoorC33
import Derived.Test.YtmenaeggoakppaaGreatDoorC28
set_option linter.all false
set_option maxRecDepth 100000
set_option maxHeartbeats 8000000
open BitVec renaming ofNat→zK
open List renaming replicate→zG,getElem?_cons_succ→kQ,append_nil→yW,append_assoc→zW,getElem?_toArray→zX,take_zero→jI,getElem?_append_left→zL,getElem?_eq_getElem→xO,take_of_length_le→zF
open Nat renaming reduceEqDiff→jR,le_refl→xP,mul_one→jT
namespace Go.V
open Go.Proofs.Tryz Go.V.Tryz
variable {k k' x1 x2:Bs} {w:Int} {ks l:List Bs} {a:Option Bs}
section
open Go.Proofs Sha
namespace R
def PrQ (w0:World)(wd:Int)(e1:Bs × Bs)(x2:Bs)(v:Value)(w':World):Prop:=No w0 w'∧∃ vv sv,v=.agg (prC true vv (setP wd (zG 32 0) 255 x2).1 sv).toArray∧one vv=true∧one sv=true∧NwB w0 w' vv e1.2∧NwD w0 w' 23 sv (setP wd (zG 32 0) 255 x2).2
theorem prove2 (w0:World)(ht:Tabs w0)(wd:Int){mv:Value}{e1 e2:Bs × Bs}(hm:EnR w0 mv [e1, e2])(hc:common e2.1 e1.1=0)(hk1:e1.1.length=32)(hl1:e1.2.length≤2 ^ 30)(hl2:e2.2.length≤2 ^ 30)(hx2:Lone wd e2 255 x2) :
  Fn prog 70 #[.int .i64 wd,mv,dg e1.1] w0 (PrQ w0 wd e1 x2):=by
 refine go70 (by simp) ?_;obtain⟨W,hW,f1,k1,k2,s1⟩:=qXe w0 (bl e1.1) 34 prZ 122;simp -implicitDefEqProofs only[go_sem,jR,Nat.reduceAdd,Tryz.f70,Value.cells,hW];refine qQa pl57 ((empties W (ht.no f1) wd).mono ?_);rintro ev w2 ⟨n2,f2⟩;have f02:=f1.trans f2;have r2:=rd_d agg34 sz34 (f2.at k1 id) hk1;simp -implicitDefEqProofs only[go_sem,jR,r2];refine qQa pl126 ((proveWith2 w2 (ht.no f02) wd n2.rd (hm.fr0 f02) hc hl1 hl2 hx2).mono ?_);rintro _ w3 ⟨f3,vv,sv,rfl,hvo,hso,n3,d3⟩
 have hbl5:(setP wd (zG 32 0) 255 x2).1.length=32:=by unfold setP;split <;> simp
 have hsz5:(prC true vv (setP wd (zG 32 0) 255 x2).1 sv).toArray.size=35:=by rw[List.size_toArray];exact prC_len hbl5
 have k3:=(f2.trans f3).at k2 id;have q6:wrO prog 122 w3 (w0.heap.size+1) 0 (.agg (prC true vv (setP wd (zG 32 0) 255 x2).1 sv).toArray)=some (put w3 (w0.heap.size+1) (.cells (prC true vv (setP wd (zG 32 0) 255 x2).1 sv).toArray 122 (0,0))):=qQw (by rw[hsz5];exact sz122) k3 (by rw[hsz5];simp[prZ]) (prC_one hvo hso);have r7:rdO prog 122 _ (w0.heap.size+1) 0=some (.agg (prC true vv (setP wd (zG 32 0) 255 x2).1 sv).toArray):=qXv agg122 (by rw[hsz5];exact sz122) (qQf (o:=.cells (prC true vv (setP wd (zG 32 0) 255 x2).1 sv).toArray 122 (0,0)) k3);have h2:=qQi (f2.at k2 id);simp -implicitDefEqProofs only[go_sem,jR,q6,r7];exact⟨(f02.trans f3).put (b:=w0.heap.size+1) _ fun h=>by omega,vv,sv,rfl,hvo,hso,(n3.back f02.size).put _ fun c hc h=>by have:=(n3.lt hc).1;omega,(d3.back f02.size).put _ fun c hc h=>by have:=(d3.lt hc).1;omega⟩
def ecI (w0:World)(bs:Bs)(n:Nat)(vs:List Value)(w:World):Prop :=
 ∃ (i:Nat) (v:Value),vs=[pt w0.heap.size 0,v,.int .i64 (i:Nat)]∧i≤bs.length∧n=bs.length - i∧NwB w0 w v (1::zK 8 bs.length::zK 8 (bs.length / 256)::bs.take i)∧No w0 w∧∀ b,qQb v=some b→b≠w0.heap.size
def ecJ (w0:World)(pre bits:Bs)(row:Obj)(n:Nat)(vs:List Value)(w:World):Prop :=
 ∃ (i:Nat) (v:Value),vs=[pt w0.heap.size 0,v,.int .i64 (i:Nat)]∧i≤bits.length∧n=bits.length - i∧NwB w0 w v (pre++bits.take i)∧No w0 w∧w.heap[w0.heap.size]?=some row∧∀ b,qQb v=some b→b≠w0.heap.size
def ecK (w0:World)(pre:Bs)(sums:List Bs)(row:Obj)(n:Nat)(vs:List Value)(w:World):Prop :=
 ∃ (i:Nat) (v:Value),vs=[pt w0.heap.size 0,v,.int .i64 (i:Nat)]∧i≤sums.length∧n=sums.length - i∧NwB w0 w v (pre++(sums.take i).flatten)∧No w0 w∧w.heap[w0.heap.size]?=some row∧∀ b,qQb v=some b→b≠w0.heap.size
def ecL (w0:World)(pre d:Bs)(j:Nat)(row:Obj)(n:Nat)(vs:List Value)(w:World):Prop :=
 ∃ (i:Nat) (v:Value),vs=[pt w0.heap.size 0,v,.int .i64 (j:Nat),.int .i64 (i:Nat)]∧i≤32∧n=32 - i∧NwB w0 w v (pre++d.take i)∧No w0 w∧w.heap[w0.heap.size]?=some row∧∀ b,qQb v=some b→b≠w0.heap.size
theorem encode12 (w0:World){vv sv:Value}{bs bits:Bs}{sums:List Bs}(hv:By w0 vv bs)(hbs:bs.length≤128)(hbl:bits.length=32)(hs:RdD w0 sv sums)(hsl:sums.length=pops bits)(hvo:one vv=true)(hso:one sv=true) :
  Fn prog 71 #[.agg (prC true vv bits sv).toArray] w0 fun r w'=>No w0 w'∧∃ v,r=.tuple #[v,.int .i64 0]∧NwB w0 w' v (Wit.ansT (some bs)++bits++sums.flatten):=by
 refine go71 (by simp) ?_;obtain⟨W,hW,f1,k1,s1⟩:=qQm w0 (prC true vv bits sv).toArray 122;have hpl:=pops_le bits;have hsz:(prC true vv bits sv).toArray.size=35:=by rw[List.size_toArray];exact prC_len hbl
 obtain⟨row,hrow⟩:∃ row,row=(Obj.cells (prC true vv bits sv).toArray 122 (0,0)):=⟨_,rfl⟩
 rw[← hrow]at k1;have cell0:∀ w,w.heap[w0.heap.size]?=some row→rdO prog 4 w w0.heap.size 0=some (.bool true):=fun w k=>by subst hrow;exact rd1 agg4 k rfl
 have cell1:∀ w,w.heap[w0.heap.size]?=some row→rdO prog 25 w w0.heap.size 1=some vv:=fun w k=>by subst hrow;exact rd1 agg25 k rfl
 have cell34:∀ w,w.heap[w0.heap.size]?=some row→rdO prog 94 w w0.heap.size 34=some sv:=fun w k=>by
  subst hrow;refine rd1 agg94 k ?_;rw[zX];show (Value.bool true::vv::(bits.map u8++[sv]))[32+2]?=_;rw[kQ,kQ,List.getElem?_append_right (by simp[hbl])];simp[hbl]
 have cellb:∀ w i,i<32→w.heap[w0.heap.size]?=some row→rdO prog 5 w w0.heap.size (2+i)=some (.int .u8 ((bits.getD i 0).toNat:Int)):=fun w i hi k=>by
  subst hrow;refine rd1 agg5 k ?_;rw[zX,Nat.add_comm];show (Value.bool true::vv::(bits.map u8++[sv]))[i+2]?=_;rw[kQ,kQ,zL (by simp[hbl];omega),List.getElem?_map,xO (by omega),qQl _ (by omega)];rfl
 have cellw:∀ w,w.heap[w0.heap.size]?=some row→rdO prog 22 w w0.heap.size 2=some (dg bits):=fun w k=>by
  subst hrow;refine rd_dg agg22 sz22 hbl (by decide) fun i hi=>?_;rw[qXc k,zX,Nat.add_comm];show (Value.bool true::vv::(bits.map u8++[sv]))[i+2]?=_;rw[kQ,kQ,zL (by simp[hbl];omega)]
 obtain⟨va,vc,rfl,hvc⟩:=hv.slice;obtain⟨sa,sc,rfl,hsc⟩:=hs.slice;have d1:=dFo (((bs.length:Nat):Int) > 128);have c0:=cell0 W k1;have c0d:=cell0 W.drew k1;have c1:=cell1 W k1;have c1d:=cell1 W.drew k1;have c34:=cell34 W k1;have c34d:=cell34 W.drew k1;have cw:=cellw W k1;have cwd:=cellw W.drew k1;simp -implicitDefEqProofs only[go_sem,Tryz.f71,Value.cells,hW];refine qXd (fun j=>j == 21) [0,1,2,3,4,5,6,7,8,9,10,11,12,13,14,15,16,17,18,19,20,21,22,23] rfl (by kernel_rfl) (by kernel_rfl) ?_;simp -implicitDefEqProofs only[go_sem,jR,Nat.reduceBEq,gLa,gLz,gLs,c0d,c1d,c34d,cwd,d1,qJg,bSe];refine qQp pl127 ((ones W.drew hbl).mono ?_);rintro _ w2 ⟨rfl,f2⟩;refine⟨fun _=>Fr.ext f2,?_⟩;have f12:No W w2:=(Fr.refl _ _).drew.trans f2;have f02:=f1.trans f12;have k2:=f12.at k1 id;have d2:(((sums.length:Nat):Int) != ((pops bits:Nat):Int))=false:=by rw[hsl];simp
 simp -implicitDefEqProofs only[go_sem,jR,Nat.reduceBEq,gLa,gLz,gLs,d2,bSe];refine qQo (v:=.slice (some ⟨w2.heap.size,0,.none⟩) 1 1) (w':=w2.alloc (.cells (bl [0]) 5)) rfl ?_;obtain⟨W3,hW3,f3,_,s3⟩:=qQm w2 (bl [0]) 5;rw[hW3];have f03:=f02.trans f3;have k3:=f3.at k2 id;have c0:=cell0 W3 k3;have c1:=cell1 W3 k3;have a0:IntKind.i64.wrap (((bs.length:Nat):Int).tdiv 256)=((bs.length / 256:Nat):Int):=by rw[show ((bs.length:Nat):Int).tdiv 256=((bs.length / 256:Nat):Int) from rfl];exact i64n
 have a1:((bs.length:Nat):Int).tmod 256=((bs.length % 256:Nat):Int):=rfl;have n0:((256:Int)=0)=False:=by simp
 have u1:=u8_of (bs.length % 256);have u2:=u8_of (bs.length / 256);simp -implicitDefEqProofs only[go_sem,jR,gLa,gLz,c0,c1,a0,a1,n0,u1,u2];refine qQo (v:=.slice (some ⟨W3.heap.size,0,.none⟩) 3 3) (w':=W3.alloc (.cells (bl [1,zK 8 (bs.length % 256),zK 8 (bs.length / 256)]) 5)) rfl ?_;have f4:No W3 (W3.alloc (.cells (bl [1,zK 8 (bs.length % 256),zK 8 (bs.length / 256)]) 5)):=(Fr.refl _ _).alloc _;have b4:NwB w0 (W3.alloc (.cells (bl [1,zK 8 (bs.length % 256),zK 8 (bs.length / 256)]) 5)) (.slice (some ⟨W3.heap.size,0,.none⟩) 3 3) [1,zK 8 (bs.length % 256),zK 8 (bs.length / 256)]:=mk_nw w0 W3 5 1 3 3 (bl _) f03.size rfl (xP _);have e8:zK 8 (bs.length % 256)=zK 8 bs.length:=by apply BitVec.eq_of_toNat_eq;simp
 rw[e8]at b4 f4 ⊢;have h3s:=qQi k3;have hb4:∀ b,qQb (.slice (some ⟨W3.heap.size,0,.none⟩) 3 3)=some b→b≠w0.heap.size:=fun b hb=>by simp only[qQb,oSi]at hb;omega
 generalize W3.alloc (.cells (bl [1,zK 8 bs.length,zK 8 (bs.length / 256)]) 5)=w4 at *;have f04:=f03.trans f4;simp -implicitDefEqProofs only[go_sem];refine loopD [1,4,5] (fun n vs w=>ecI w0 bs n vs w∧w.heap[w0.heap.size]?=some row) bs.length ⟨⟨0,_,rfl,by omega,rfl,b4,f04,hb4⟩,f4.at k3 id⟩ ?_;rintro _ vs w5 g ⟨⟨i,v,rfl,hi,rfl,b5,f5,h5⟩,k5⟩;have c1:=cell1 w5 k5
 by_cases hlt:i<bs.length
 ·have d3:=dTo ((i:Int)<((bs.length:Nat):Int))
  have y:=iBd (i:=i) (n:=bs.length);have w1:=iSu (i:=i);obtain⟨b,o,cap,he,r⟩:=(hv.fr0 f5).rd1 hlt;cases he;have hsn:=take_snoc (l:=bs) (i:=i) hlt;obtain⟨v6,w6,hr6,b6,f6,g6,m6⟩:=NwB.grow b5 (bs.getD i 0) (by simp;omega) f5
  replace b6:NwB w0 w6 v6 (1::zK 8 bs.length::zK 8 (bs.length / 256)::(bs.take i++[bs.getD i 0])):=b6
  rw[hsn]at b6;generalize bs.getD i 0=x at *;simp -implicitDefEqProofs only[go_sem,jR,gLa,gLz,c1,decide_true,y,and_self,iTn,jT,r];refine qQo (v:=.slice (some ⟨w5.heap.size,0,none⟩) 1 1) (w':=w5.alloc (.cells (bl [x]) 5)) rfl ?_;simp -implicitDefEqProofs only[go_sem,jR];refine qQh ⟨v6,w6,hr6,?_⟩;simp -implicitDefEqProofs only[go_sem,jR,w1];refine⟨bs.length - (i+1),by omega,⟨i+1,v6,rfl,by omega,rfl,b6,f6,fun c hc h=>?_⟩,g6.at k5 fun h=>h5 _ h rfl⟩
  rcases m6 c hc with h' | h'
  ·exact h5 c h' h
  ·have:=qQi k5;omega
 have d3:=dFo ((i:Int)<((bs.length:Nat):Int));obtain rfl:i=bs.length:=by omega
 rw[List.take_length]at b5;simp -implicitDefEqProofs only[go_sem,jR,gLa,gLz,c1,d3];have b5:NwB w0 w5 v (Wit.ansT (some bs)):=b5;have hla:(Wit.ansT (some bs)).length=bs.length+3:=by simp[Wit.ansT]
 generalize Wit.ansT (some bs)=pre at *;refine loopD [1,4,6] (ecJ w0 pre bits row) 32 ⟨0,v,rfl,by omega,by omega,by rw[jI,yW];exact b5,f5,k5,h5⟩ ?_;clear b5 f5 k5 h5 c1 d3;rintro _ vs w5 g ⟨i,v,rfl,hi,rfl,b5,f5,k5,h5⟩
 by_cases hlt:i<32
 ·have d3:=dTo ((i:Int)<32)
  have y:=iBd (i:=i) (n:=32);have w1:=iSu (i:=i);have r:=cellb w5 i hlt k5;have hsn:=take_snoc (l:=bits) (i:=i) (by omega);obtain⟨v6,w6,hr6,b6,f6,g6,m6⟩:=NwB.grow b5 (bits.getD i 0) (by rw[lAp,lTk];omega) f5;rw[zW,hsn]at b6;generalize bits.getD i 0=x at *;simp -implicitDefEqProofs only[go_sem,jR,d3,y,and_self,iTn,jT,r];refine qQo (v:=.slice (some ⟨w5.heap.size,0,none⟩) 1 1) (w':=w5.alloc (.cells (bl [x]) 5)) rfl ?_;simp -implicitDefEqProofs only[go_sem,jR];refine qQh ⟨v6,w6,hr6,?_⟩;simp -implicitDefEqProofs only[go_sem,jR,w1];refine⟨bits.length - (i+1),by omega,i+1,v6,rfl,by omega,rfl,b6,f6,g6.at k5 fun h=>h5 _ h rfl,fun c hc h=>?_⟩
  rcases m6 c hc with h' | h'
  ·exact h5 c h' h
  ·have:=qQi k5;omega
 have d3:=dFo ((i:Int)<32);obtain rfl:i=32:=by omega
 rw[zF (by omega)]at b5;simp -implicitDefEqProofs only[go_sem,jR,d3];have hla2:(pre++bits).length≤400:=by rw[lAp];omega
 generalize pre++bits=pre2 at *;refine loopD [1,4,7] (ecK w0 pre2 sums row) sums.length ⟨0,v,rfl,by omega,rfl,by rw[jI,List.flatten_nil,yW];exact b5,f5,k5,h5⟩ ?_;clear b5 f5 k5 h5 d3;rintro _ vs w5 g ⟨i,v,rfl,hi,rfl,b5,f5,k5,h5⟩;have c34:=cell34 w5 k5
 by_cases hlt:i<sums.length
 ·have d3:=dTo ((i:Int)<((sums.length:Nat):Int))
  have y:=iBd (i:=i) (n:=sums.length);have w1:=iSu (i:=i);have hd32:=hs.1.getD hlt;have hfl:(sums.take (i+1)).flatten=(sums.take i).flatten++sums.getD i []:=by rw[tSg hlt,List.flatten_append,List.flatten_singleton,qQl _ hlt]
  have hll:((sums.take i).flatten).length≤32*256:=by
   have:∀ (l:List Bs),All32 l→l.flatten.length=32*l.length:=by
    intro l
    induction l with
    | nil=>intro _;rfl
    | cons a l ih=>intro h;rw[List.flatten_cons,lAp,h.head,ih h.tail,List.length_cons];omega
   rw[this _ (hs.1.take i),lTk];omega
  have hby:∀ w j,No w0 w→j<32→∃ b o cap,(Value.slice sa sums.length sc)=.slice (some ⟨b,o,.none⟩) sums.length cap∧rdO prog 5 w b (o+i*32+j)=some (.int .u8 (((sums.getD i []).getD j 0).toNat:Int)):=fun w j k hj=>by
   obtain⟨b,o,cap,e,_,_⟩:=(hs.fr0 k).pos (by omega);exact⟨b,o,cap,e,by have:=hs.fr0 k;rw[e]at this;exact this.byte agg5 hlt hj⟩
  simp -implicitDefEqProofs only[go_sem,jR,gLa,gLz,c34,d3];generalize sums.getD i []=d at *;refine loopD [1,4,7,8] (ecL w0 (pre2++(sums.take i).flatten) d i row) 32 ⟨0,v,rfl,by omega,rfl,by rw[jI,yW];exact b5,f5,k5,h5⟩ ?_;clear b5 f5 k5 h5 c34;rintro _ vs w5 g ⟨j,v,rfl,hj,rfl,b5,f5,k5,h5⟩
  by_cases hjl:j<32
  ·have d4:=dTo ((j:Int)<32)
   have y2:=iBd (i:=j) (n:=32);have w2:=iSu (i:=j);have c34:=cell34 w5 k5;obtain⟨b,o,cap,he,r⟩:=hby w5 j f5 hjl;cases he;have hsn:=take_snoc (l:=d) (i:=j) (by omega);obtain⟨v6,w6,hr6,b6,f6,g6,m6⟩:=NwB.grow b5 (d.getD j 0) (by rw[lAp,lAp,lTk];omega) f5;rw[zW,hsn]at b6;generalize d.getD j 0=x at *;simp -implicitDefEqProofs only[go_sem,jR,d4,c34,y,y2,and_self,iTn,jT,r];refine qQo (v:=.slice (some ⟨w5.heap.size,0,.none⟩) 1 1) (w':=w5.alloc (.cells (bl [x]) 5)) rfl ?_;simp -implicitDefEqProofs only[go_sem,jR];refine qQh ⟨v6,w6,hr6,?_⟩;simp -implicitDefEqProofs only[go_sem,jR,w2];refine⟨32 - (j+1),by omega,j+1,v6,rfl,by omega,rfl,b6,f6,g6.at k5 fun h=>h5 _ h rfl,fun c hc h=>?_⟩
   rcases m6 c hc with h' | h'
   ·exact h5 c h' h
   ·have:=qQi k5;omega
  ·have d4:=dFo ((j:Int)<32)
   obtain rfl:j=32:=by omega
   rw[show d.take 32=d from zF (by omega),zW,← hfl]at b5;simp -implicitDefEqProofs only[go_sem,jR,d4,w1];exact⟨sums.length - (i+1),by omega,i+1,v,rfl,by omega,rfl,b5,f5,k5,h5⟩
 ·have d3:=dFo ((i:Int)<((sums.length:Nat):Int))
  obtain rfl:i=sums.length:=by omega
  rw[List.take_length]at b5;simp -implicitDefEqProofs only[go_sem,jR,gLa,gLz,c34,d3];exact⟨f5,v,rfl,b5⟩
end R
end
section
open Sha
namespace Wit
open Tw
def K0:Bs:=zG 32 0
def K1:Bs:=128::zG 31 0
def kL:Tw:=.leaf K0 255 ((empts 4 257).take 255) (some [120])
def kR:Tw:=.leaf K1 255 ((empts 4 257).take 255) (some [121])
def kT:Tw:=.fork [K0,K1] 256 256 [] kL kR
theorem take_all {n:Nat}:All32 ((empts 4 257).take n):=R.empts_all 4 257 |>.take n
theorem klt01:klt K0 K1:=by decide +kernel
theorem kcom:common K1 K0=0:=by decide +kernel
theorem kfrm:frm [K0,K1]=256:=by decide +kernel
theorem klefts:lefts [K0,K1]=1:=by decide +kernel
theorem klen (n:Nat)(h:n≤257):((empts 4 257).take n).length=n:=by rw[lTk,qQn];omega
theorem kL_ok:kL.Ok:=⟨by decide,by decide,klen 255 (by decide),take_all,fun v h=>by cases h;decide⟩
theorem kR_ok:kR.Ok:=⟨by decide,by decide,klen 255 (by decide),take_all,fun v h=>by cases h;decide⟩
theorem kT_ok:kT.Ok:=by
 refine⟨kfrm.symm,xP _,xP _,rfl,All32.nil,?_,?_,xP _,?_,?_,rfl,rfl,kL_ok,kR_ok⟩
 ·exact List.pairwise_cons.2 ⟨fun b hb=>by simp only[List.mem_singleton]at hb;subst hb;exact klt01,List.pairwise_singleton _ _⟩
 ·exact All32.cons (by decide) (All32.one (by decide))
 ·rw[klefts];rfl
 ·rw[klefts];rfl
theorem empts_tdy (n:Nat):∀ d ∈ (empts 4 257).take n,cutD 4 d=d:=fun d hd=>by
 obtain⟨i,_,rfl⟩:=List.mem_map.1 (List.mem_of_mem_take hd);exact emptD_tdy _ _
theorem kT_tdy:Tdy 4 kT:=⟨fun d hd=>(by cases hd),empts_tdy 255,empts_tdy 255⟩
theorem lay_empts (w:Int):∀ (n h:Nat) (b s:Bs),h+n≤257→layN w h b s (((empts w 257).drop h).take n)=(b,s)
 | 0,h,b,s,_=>by rw[jI];rfl
 | n+1,h,b,s,hn=>by
  rw[List.drop_eq_getElem_cons (by rw[qQn];omega),List.take_succ_cons,layN]
  have e:(empts w 257)[h]'(by rw[qQn];omega)=emptD w h:=by
   have:=qXy w 257 (i:=h) (by omega);rw[xO (by rw[qQn];omega)]at this;exact Option.some.inj this
  rw[if_pos e];exact lay_empts w n (h+1) b s (by omega)
def kRaw:Bs:=[2]++zG 32 0++[1,1,0,120]++zG 32 0++[1,1,0,121]++zG 32 0
theorem kNear:nearT 4 0 ((empts 4 257).take 255)=zG 32 0:=by
 have:=lay_empts 4 255 0 (zG 32 0) [] (by decide);rw[List.drop_zero]at this;unfold nearT;rw[this,yW]
theorem kTxt:txt 4 kT=kRaw:=by
 have h:∀ k v,txt 4 (.leaf k 255 ((empts 4 257).take 255) (some [v]))=[1,1,0,v]++zG 32 0:=fun k v=>by
  show ansT (some [v])++nearT 4 0 ((empts 4 257).take 255)=_;rw[kNear];simp[ansT]
 have e:txt 4 kT=2::(nearT 4 256 []++(txt 4 kL++txt 4 kR)):=rfl;rw[e,kL,kR,h,h];rfl
theorem kForm:form 4 [K0,K1] kRaw=.ok (some kT):=by
 have:=form_txt kT_ok kT_tdy rfl;rw[kTxt]at this;exact this
theorem kLone0:∃ x1,R.Lone 4 (K0,[120]) 255 x1:=⟨_,rfl⟩
theorem sortW_mk (h1:1≤w∧w≤32)(h2:ks.length≤64)(h3:ks.Nodup)(h4:srt ks=l):sortW w ks=.ok l:=by
 unfold sortW sortE;rw[if_neg (by omega),if_neg (by omega),if_pos h3,h4]
theorem underP_mk {root:Bs}{raw:Bs}{t:Tw}(h1:form w ks raw=.ok (some t))(h2:dig w asIs t=root):underP w root ks raw=.ok (some t):=by
 unfold underP;rw[h1];simp only[if_pos h2]
theorem verifyP_mk {root:Bs}{raw:Bs}{t:Tw}(h1:sortW w ks=.ok l)(h2:underP w root l raw=.ok (some t)):verifyP w root ks raw=.ok (ks.map t.at):=by
 unfold verifyP;rw[h1];simp only[h2]
theorem partP_mk {raw k:Bs}{t:Tw}(h1:sortW w ks=.ok l)(h2:form w l raw=.ok (some t))(h3:k ∈ l):partP w ks raw k=.ok (txt w (part w t k)):=by
 unfold partP;rw[h1];simp only[h2,if_pos h3]
theorem kSort1:sortW 4 [K1,K0]=.ok [K0,K1]:=sortW_mk (by decide) (by decide) (by decide +kernel) (by decide +kernel)
theorem kSort0:sortW 4 [K0,K1]=.ok [K0,K1]:=sortW_mk (by decide) (by decide) (by decide +kernel) (by decide +kernel)
theorem fork_at {f top:Nat}{near:List Bs}{l r:Tw}:(Tw.fork ks f top near l r).at k=if kbit k (256 - f) then r.at k else l.at k:=rfl
theorem leaf_at {top:Nat}{near:List Bs}:(Tw.leaf k' top near a).at k=a:=rfl
theorem fork_nbrs {f top:Nat}{near:List Bs}{l r:Tw}:nbrs w (Tw.fork ks f top near l r) k=(if kbit k (256 - f) then nbrs w r k++[dig w asIs l] else nbrs w l k++[dig w asIs r])++near:=rfl
theorem leaf_nbrs {top:Nat}{near:List Bs}:nbrs w (Tw.leaf k' top near a) k=near:=rfl
theorem leaf_dig {top:Nat}{near:List Bs}{a:Bs}:dig w asIs (Tw.leaf k' top near (some a))=climb w k' 0 (leafD w k' a) near:=rfl
theorem fork_dig {f top:Nat}{l r:Tw}:dig w asIs (Tw.fork ks f top [] l r)=qQv w (dig w asIs l) (dig w asIs r):=rfl
theorem kbit0:kbit K0 (256 - 256)=false:=by decide +kernel
theorem kbit1:kbit K1 (256 - 256)=true:=by decide +kernel
theorem at0:kT.at K0=some [120]:=by unfold kT kL;rw[fork_at,kbit0,if_neg (by decide),leaf_at]
theorem at1:kT.at K1=some [121]:=by unfold kT kR;rw[fork_at,kbit1,if_pos rfl,leaf_at]
theorem kDig (h1:R.Lone 4 (K0,[120]) 255 x1)(h2:R.Lone 4 (K1,[121]) 255 x2):dig 4 asIs kT=qQv 4 x1 x2:=by
 unfold kT kL kR;rw[fork_dig,leaf_dig,leaf_dig];unfold R.Lone at h1 h2;rw[h1,h2]
theorem kVerify (h1:R.Lone 4 (K0,[120]) 255 x1)(h2:R.Lone 4 (K1,[121]) 255 x2):verifyP 4 (qQv 4 x1 x2) [K1,K0] kRaw=.ok [some [121],some [120]]:=by
 rw[verifyP_mk kSort1 (underP_mk kForm (kDig h1 h2)),List.map_cons,List.map_cons,List.map_nil,at0,at1]
theorem kPart (h2:R.Lone 4 (K1,[121]) 255 x2):partP 4 [K0,K1] kRaw K0=.ok (ansT (some [120])++(R.setP 4 (zG 32 0) 255 x2).1++(R.setP 4 (zG 32 0) 255 x2).2.flatten):=by
 rw[partP_mk kSort0 kForm (by simp)]
 have n0:nbrs 4 kT K0=(empts 4 257).take 255++[x2]:=by
  unfold R.Lone at h2;unfold kT kL kR;rw[fork_nbrs,kbit0,if_neg (by decide),leaf_nbrs,leaf_dig,yW,h2]
 have e:txt 4 (part 4 kT K0)=ansT (kT.at K0)++nearT 4 0 (nbrs 4 kT K0):=rfl;rw[e,at0,n0,zW];refine congrArg Except.ok (congrArg (ansT (some [120])++·) ?_);have hl:=lay_empts 4 255 0 (zG 32 0) [] (by decide);rw[List.drop_zero]at hl;unfold nearT;rw[layN_app,klen 255 (by decide),hl];unfold R.setP;simp only[layN,Nat.zero_add]
 by_cases hx:x2=emptD 4 255
 ·rw[if_pos hx,if_pos hx];rfl
 ·rw[if_neg hx,if_neg hx];simp
end Wit
end
end Go.V
