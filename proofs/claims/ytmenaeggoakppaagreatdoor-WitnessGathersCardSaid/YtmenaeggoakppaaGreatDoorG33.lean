/- Helpers. -/
import Derived.Test.YtmenaeggoakppaaGreatDoorG32
set_option linter.all false
set_option maxRecDepth 100000
set_option maxHeartbeats 8000000
open Array renaming toList_setIfInBounds→kV
open BitVec renaming ofNat→zK
open List renaming replicate→zG,getElem?_cons_succ→vE,size_toArray→vC,getElem?_toArray→zX,append_nil→j9,toList_toArray→kY,getElem?_append_left→zL,append_assoc→zW,getElem?_eq_getElem→xO,take_zero→jR,getElem?_append_right→jN,take_of_length_le→zF,set_cons_succ→kU
open Nat renaming reduceEqDiff→jF,le_refl→xP,reduceAdd→vJ,mul_one→jH,add_comm→kG
open Go.Value renaming cells→jM,bool→kF
namespace Go.V
open Go.Proofs.Tryz Go.V.Tryz
variable {f:Bool} {bits k k' x1 x2:Bs} {e1 e2:Bs × Bs} {w:Int} {ks l:List Bs} {n:Nat} {a:Option Bs} {esv mv sv vv:Value}
section
open Go.Proofs Sha
namespace R
abbrev prC (f:Bool)(vv:Value)(bits:Bs)(sv:Value):List Value:=.bool f::vv::(bits.map u8++[sv])
theorem prC_len (h:bits.length=32):(prC f vv bits sv).length=35:=by simp[h]
theorem prC_one (h1:one vv=true)(h2:one sv=true):(prC f vv bits sv).toArray.all one=true:=by
 rw[← Array.all_toList];simp only[prC,List.all_cons,List.all_append,qXs,h1,h2,List.all_nil,Bool.and_true];rfl
def v2I (w0 w4:World)(esv:Value)(h:Nat)(n:Nat)(vs:List Value)(w:World):Prop :=
 ∃ (i:Nat),vs=[.int .i64 (h:Nat),pt w0.heap.size 0,pt (w0.heap.size+1) 0,pt (w0.heap.size+2) 0,.int .u8 ((2 ^ i:Nat):Int),.int .i64 (i:Nat)]∧i≤h % 8∧n=h % 8 - i∧w=w4
theorem prC_set (i:Nat)(x:Byte):((prC f vv bits sv).toArray.setIfInBounds (2+i) (u8 x))=(if i<bits.length then (prC f vv (bits.set i x) sv).toArray else (prC f vv bits sv).toArray.setIfInBounds (2+i) (u8 x)):=by
 split
 ·rename_i h
  apply Array.toList_inj.1;rw[kV,kY,kY,show 2+i=i+1+1 by omega];simp only[prC,kU];rw[List.set_append_left _ _ (by simpa using h)]
  simp
 ·rfl
theorem prC_sums {vv sv sv':Value}(h:bits.length=32):(prC f vv bits sv).toArray.setIfInBounds 34 sv'=(prC f vv bits sv').toArray:=by
 apply Array.toList_inj.1;rw[kV,kY,kY];simp only[prC,kU];rw[List.set_append_right _ _ (by simp[h])];simp[h]
abbrev prZ:Array Value:=(#[.bool false,.slice Option.none 0 0]:Array Value)++Array.replicate 32 (.int .u8 0)++#[.slice Option.none 0 0]
def setP (wd:Int)(bits:Bs)(h:Nat)(d:Bs):Bs × List Bs:=if d=emptD wd h then (bits,[]) else (bits.set (h / 8) (bits.getD (h / 8) 0 ||| zK 8 (2 ^ (h % 8))),[d])
theorem set12 (w0:World)(wd:Int)(he:RdD w0 esv (empts wd 257))(hbl:bits.length=32)(hvo:one vv=true){h:Nat}(hh:h<256)(hfree:(bits.getD (h / 8) 0).getLsbD (h % 8)=false){d:Bs}(hd:d.length=32) :
  Fn prog 179 #[.agg (prC f vv bits (.slice .none 0 0)).toArray,esv,.int .i64 (h:Nat),dg d] w0 fun v w'=>No w0 w'∧∃ sv,v=.agg (prC f vv (setP wd bits h d).1 sv).toArray∧one sv=true∧NwD w0 w' 23 sv (setP wd bits h d).2:=by
 refine go179 (by simp) ?_;obtain⟨W,hW,f1,k1,k2,k3,s1⟩:=qZw w0 (prC f vv bits (.slice .none 0 0)).toArray 122 (bl d) 23 prZ 122;obtain⟨eb,eo,ec,rfl,_,_⟩:=he.pos (by rw[qQm];decide);have re:=(he.fr0 f1).get (P:=prog) agg23 sz23 (i:=h) (by rw[qQm];omega);rw[gDq,qXw wd 257 (by omega),Option.getD_some]at re;have red:rdO prog 23 W.drew eb (eo+h*32)=_:=re;have y1:(0:Int)≤(h:Int)∧(h:Int)<(((empts wd 257).length:Nat):Int):=by rw[qQm];omega
 have rd:=rd_d agg23 sz23 k2 hd;have rdd:rdO prog 23 W.drew (w0.heap.size+1) 0=_:=rd;have eq:=eqDig hd (qQp wd h);have hpl:(prC f vv bits (.slice .none 0 0)).toArray.size=35:=by rw[vC];exact prC_len hbl
 have zsz:prZ.size=35:=by simp[prZ]
 have k1d:W.drew.heap[w0.heap.size]?=_:=k1;have k2d:W.drew.heap[w0.heap.size+1]?=_:=k2;have k3d:W.drew.heap[w0.heap.size+2]?=_:=k3
 by_cases hde:d=emptD wd h
 ·have hb:(d == emptD wd h)=true:=by rw[beq_iff_eq];exact hde
  have r1:rdO prog 122 W.drew w0.heap.size 0=some (.agg (prC f vv bits (.slice .none 0 0)).toArray):=qXz agg122 (by rw[hpl];exact sz122) k1d;have q1:wrO prog 122 W.drew (w0.heap.size+2) 0 (.agg (prC f vv bits (.slice .none 0 0)).toArray)=some (put W.drew (w0.heap.size+2) (.cells (prC f vv bits (.slice .none 0 0)).toArray 122 (0,0))):=qQw (by rw[hpl];exact sz122) k3d (by rw[hpl];exact zsz) (prC_one hvo rfl);have k4:=qQf (o:=.cells (prC f vv bits (.slice .none 0 0)).toArray 122 (0,0)) k3d;have r4:rdO prog 122 _ (w0.heap.size+2) 0=some (.agg (prC f vv bits (.slice .none 0 0)).toArray):=qXz agg122 (by rw[hpl];exact sz122) k4;simp -implicitDefEqProofs only[go_sem,jF,vJ,Tryz.f179,jM,hW,y1,and_self,iTn,rdd,red,eq,hb,r1,q1,r4];unfold setP;rw[if_pos hde];exact⟨f1.drew.put (b:=w0.heap.size+2) _ fun h=>by omega,_,rfl,rfl,NwD.nil _ _ _⟩
 ·have hb:(d == emptD wd h)=false:=by rw[bFn];exact hde
  simp -implicitDefEqProofs only[go_sem,jF,vJ,Tryz.f179,jM,hW,y1,and_self,iTn,rdd,red,eq,hb];have n8:((8:Int)=0)=False:=by simp
  have m8:(h:Int).tmod 8=((h % 8:Nat):Int):=rfl;have q8:IntKind.i64.wrap ((h:Int).tdiv 8)=((h / 8:Nat):Int):=by rw[show (h:Int).tdiv 8=((h / 8:Nat):Int) from rfl];exact i64n
  refine loopD [2,4,7,8,9,10] (v2I w0 W.drew (.slice .none 0 0) h) (h % 8) ⟨0,rfl,by omega,rfl,rfl⟩ ?_;rintro _ vs w4 g ⟨i,rfl,hi,rfl,rfl⟩
  by_cases hlt:i<h % 8
  ·have d1:=dTo ((i:Int)<((h % 8:Nat):Int))
   have c1:=iSu (i:=i)
   have c2:IntKind.u8.wrap (2*((2 ^ i:Nat):Int))=((2 ^ (i+1):Nat):Int):=by
    rw[wrap_u8];have:2 ^ (i+1)≤2 ^ 7:=Nat.pow_le_pow_right (by decide) (by omega);rw[Nat.pow_succ]at this ⊢;omega
   simp -implicitDefEqProofs only[go_sem,jF,d1,n8,m8,c1,c2];exact⟨h % 8 - (i+1),by omega,i+1,rfl,by omega,rfl,rfl⟩
  ·have d1:=dFo ((i:Int)<((h % 8:Nat):Int))
   obtain rfl:i=h % 8:=by omega
   have hb8:h / 8<32:=by omega
   have y2:(0:Int)≤((h / 8:Nat):Int)∧((h / 8:Nat):Int)<((32:Nat):Int):=by omega
   have rb:rdO prog 5 W.drew w0.heap.size (2+h / 8)=some (.int .u8 ((bits.getD (h / 8) 0).toNat:Int)):=by
    refine rd1 agg5 k1d ?_;rw[zX,kG];show (kF f::vv::(bits.map u8++[Value.slice .none 0 0]))[h / 8+2]?=_;rw[vE,vE,zL (by simp[hbl];omega),List.getElem?_map,xO (by omega),qQi _ (by omega)];rfl
   have ho:=add_or8 (x:=bits.getD (h / 8) 0) (k:=h % 8) (Nat.mod_lt _ (by decide)) hfree
   have c3:IntKind.u8.wrap (((bits.getD (h / 8) 0).toNat:Int)+((2 ^ (h % 8):Nat):Int))=(((bits.getD (h / 8) 0 ||| zK 8 (2 ^ (h % 8))).toNat:Nat):Int):=by
    rw[← Int.natCast_add,ho];exact w8_toNat _
   generalize hx:bits.getD (h / 8) 0 ||| zK 8 (2 ^ (h % 8))=x at *
   have hps:=prC_set (f:=f) (vv:=vv) (sv:=.slice .none 0 0) (bits:=bits) (h / 8) x;rw[if_pos (by omega)]at hps;have hbl2:(bits.set (h / 8) x).length=32:=by rw[List.length_set];exact hbl
   have qb:wrO prog 5 W.drew w0.heap.size (2+h / 8) (.int .u8 (x.toNat:Int))=some (put W.drew w0.heap.size (.cells (prC f vv (bits.set (h / 8) x) (.slice .none 0 0)).toArray 122 (0,0))):=by
    rw[← hps];exact wr1 sz5 rfl k1d (by rw[hpl];omega)
   generalize hbits:bits.set (h / 8) x=bits' at *;have j1:=qQf (o:=.cells (prC f vv bits' (.slice .none 0 0)).toArray 122 (0,0)) k1d;have j2:=qQr (b:=w0.heap.size) (o:=.cells (prC f vv bits' (.slice .none 0 0)).toArray 122 (0,0)) k2d (by omega);have j3:=qQr (b:=w0.heap.size) (o:=.cells (prC f vv bits' (.slice .none 0 0)).toArray 122 (0,0)) k3d (by omega);have f5:No w0 (put W.drew w0.heap.size (.cells (prC f vv bits' (.slice .none 0 0)).toArray 122 (0,0))):=f1.drew.put (b:=w0.heap.size) _ fun h=>by omega
   obtain⟨w5,hw5⟩:∃ w5,w5=put W.drew w0.heap.size (.cells (prC f vv bits' (.slice .none 0 0)).toArray 122 (0,0)):=⟨_,rfl⟩
   rw[← hw5]at qb j1 j2 j3 f5
   have rs:rdO prog 94 w5 w0.heap.size 34=some (.slice .none 0 0):=by
    refine rd1 agg94 j1 ?_;rw[zX];show (kF f::vv::(bits'.map u8++[Value.slice .none 0 0]))[32+2]?=_;rw[vE,vE,jN (by simp[hbl2])];simp[hbl2]
   have rd5:=rd_d agg23 sz23 j2 hd;simp -implicitDefEqProofs only[go_sem,jF,d1,n8,m8,q8,y2,and_self,iTn,jH,rb,c3,qb,rs,rd5];refine qQl (v:=.slice (some ⟨w5.heap.size,0,.none⟩) 1 1) (w':=w5.alloc (.cells (bl d) 23)) (qXb (y:=List.map u8 (zG 32 0)) (by simp) (c:=bl (zG 32 0)) (by simp) (d:=d) hd _) ?_;obtain⟨v6,w6,hr6,b6,f6,g6,h6⟩:=(NwD.nil w0 w5 23).push app94_94 hd (by simp) f5;have i1:=g6.at j1 fun h=>by cases h
   have i3:=g6.at j3 fun h=>by cases h
   have hone6:one v6=true:=by obtain⟨a,c,e,_⟩:=b6.rd.slice;rw[e];rfl
   have hpl2:(prC f vv bits' (.slice .none 0 0)).toArray.size=35:=by rw[vC];exact prC_len hbl2
   have hpl3:(prC f vv bits' v6).toArray.size=35:=by rw[vC];exact prC_len hbl2
   have q7:wrO prog 94 w6 w0.heap.size 34 v6=some (put w6 w0.heap.size (.cells (prC f vv bits' v6).toArray 122 (0,0))):=by
    have:=wr1 (P:=prog) sz94 hone6 i1 (o:=34) (by rw[hpl2];decide);rw[prC_sums hbl2]at this;exact this
   have m1:=qQf (o:=.cells (prC f vv bits' v6).toArray 122 (0,0)) i1;have m3:=qQr (b:=w0.heap.size) (o:=.cells (prC f vv bits' v6).toArray 122 (0,0)) i3 (by omega);have f7:No w0 (put w6 w0.heap.size (.cells (prC f vv bits' v6).toArray 122 (0,0))):=f6.put (b:=w0.heap.size) _ fun h=>by omega
   have b7:NwD w0 (put w6 w0.heap.size (.cells (prC f vv bits' v6).toArray 122 (0,0))) 23 v6 [d]:=b6.put _ fun c hc h=>by
    rcases h6 c hc with h' | h'
    ·cases h'
    ·have:=qQh j1;omega
   obtain⟨w7,hw7⟩:∃ w7,w7=put w6 w0.heap.size (.cells (prC f vv bits' v6).toArray 122 (0,0)):=⟨_,rfl⟩
   rw[← hw7]at q7 m1 m3 f7 b7;have r8:rdO prog 122 w7 w0.heap.size 0=some (.agg (prC f vv bits' v6).toArray):=qXz agg122 (by rw[hpl3];exact sz122) m1;have q8:wrO prog 122 w7 (w0.heap.size+2) 0 (.agg (prC f vv bits' v6).toArray)=some (put w7 (w0.heap.size+2) (.cells (prC f vv bits' v6).toArray 122 (0,0))):=qQw (by rw[hpl3];exact sz122) m3 (by rw[hpl3];exact zsz) (prC_one hvo hone6);have r9:rdO prog 122 _ (w0.heap.size+2) 0=some (.agg (prC f vv bits' v6).toArray):=qXz agg122 (by rw[hpl3];exact sz122) (qQf (o:=.cells (prC f vv bits' v6).toArray 122 (0,0)) m3);simp -implicitDefEqProofs only[go_sem,jF];refine qQg ⟨v6,w6,hr6,?_⟩;simp -implicitDefEqProofs only[go_sem,jF,q7,r8,q8,r9];unfold setP;rw[if_neg hde,hx];simp only[hbits]
   exact⟨f7.put (b:=w0.heap.size+2) _ fun h=>by omega,v6,rfl,hone6,b7.put _ fun c hc h=>by
    rcases h6 c hc with h' | h'
    ·cases h'
    ·have:=qQh j3;omega⟩
theorem prC_flag {f f':Bool}:(prC f vv bits sv).toArray.setIfInBounds 0 (.bool f')=(prC f' vv bits sv).toArray:=by
 apply Array.toList_inj.1;simp[prC]
theorem prC_val {vv vv' sv:Value}:(prC f vv bits sv).toArray.setIfInBounds 1 vv'=(prC f vv' bits sv).toArray:=by
 apply Array.toList_inj.1;simp[prC]
theorem digest12X (w0:World)(ht:Tabs w0)(wd:Int)(he:RdD w0 esv (empts wd 257)){e:Bs × Bs}(hm:EnR w0 mv [e])(hl:e.2.length≤549755813888)(hn:n≤256){x:Bs}(hx:Lone wd e n x) :
  Fn prog 178 #[esv,.int .i64 wd,mv,.int .i64 (n:Nat)] w0 fun v w'=>v=dg x∧No w0 w':=by
 rw[hx];exact digest12 w0 ht wd he hm hl hn
def pwI (w0:World)(wd:Int)(esv mv:Value)(k:Bs)(e1 e2:Bs × Bs)(n:Nat)(vs:List Value)(w:World):Prop :=
 ∃ (i:Nat) (vv:Value),vs=[esv,.int .i64 wd,mv,pt w0.heap.size 0,pt (w0.heap.size+1) 0,pt (w0.heap.size+2) 0,.int .i64 (i:Nat)]∧i≤2∧n=2 - i ∧
  w.heap[w0.heap.size]?=some (.cells (bl k) 34 (0,0))∧w.heap[w0.heap.size+1]?=some (.cells prZ 122 (0,0))∧w.heap[w0.heap.size+2]?=some (.cells (prC (decide (0<i)) vv (zG 32 0) (.slice .none 0 0)).toArray 122 (0,0))∧No w0 w ∧
  one vv=true∧(if i=0 then vv=.slice .none 0 0 else NwB w0 w vv e1.2)∧∀ b,qQb vv=some b→w0.heap.size+3≤b
theorem prZ_eq:prZ=(prC false (.slice Option.none 0 0) (zG 32 0) (.slice Option.none 0 0)).toArray:=by
 apply Array.toList_inj.1;simp[prZ,prC]
def pwJ (w0:World)(wd:Int)(esv mv:Value)(k:Bs)(e1:Bs × Bs)(x2:Bs)(n:Nat)(vs:List Value)(w:World):Prop :=
 ∃ (h:Nat) (vv sv:Value),vs=[esv,.int .i64 wd,mv,pt w0.heap.size 0,pt (w0.heap.size+1) 0,pt (w0.heap.size+2) 0,.int .i64 (h:Nat)]∧h≤256∧n=256 - h ∧
  w.heap[w0.heap.size]?=some (.cells (bl k) 34 (0,0))∧w.heap[w0.heap.size+1]?=some (.cells prZ 122 (0,0)) ∧
  w.heap[w0.heap.size+2]?=some (.cells (prC true vv (if h<256 then zG 32 0 else (setP wd (zG 32 0) 255 x2).1) sv).toArray 122 (0,0))∧No w0 w∧one vv=true∧NwB w0 w vv e1.2∧one sv=true∧(if h<256 then sv=.slice .none 0 0 else NwD w0 w 23 sv (setP wd (zG 32 0) 255 x2).2) ∧
  (∀ b,qQb vv=some b→w0.heap.size+3≤b)∧∀ b,qQb sv=some b→w0.heap.size+3≤b
theorem proveWith2 (w0:World)(ht:Tabs w0)(wd:Int)(he:RdD w0 esv (empts wd 257))(hm:EnR w0 mv [e1, e2])(hc:common e2.1 e1.1=0)(hl1:e1.2.length≤2 ^ 30)(hl2:e2.2.length≤2 ^ 30)(hx2:Lone wd e2 255 x2) :
  Fn prog 126 #[esv,.int .i64 wd,mv,dg e1.1] w0 fun v w'=>No w0 w'∧∃ vv sv,v=.agg (prC true vv (setP wd (zG 32 0) 255 x2).1 sv).toArray∧one vv=true∧one sv=true∧NwB w0 w' vv e1.2∧NwD w0 w' 23 sv (setP wd (zG 32 0) 255 x2).2:=by
 refine go126 (by simp) ?_;obtain⟨b,o,cap,vv1,rfl,hcap,hk1,ho1,hby1,hrd1⟩:=hm.at (i:=0) (by simp);obtain⟨b',o',cap',vv2,e,_,hk2,ho2,hby2,hrd2⟩:=hm.at (i:=1) (by simp);cases e;simp only[List.getElem_cons_zero,List.getElem_cons_succ]at hk1 hk2 hrd1 hrd2 hby1 hby2
 have hne:e2.1≠e1.1:=fun h=>by
  have:common e2.1 e1.1=256:=by rw[h];exact qZf (fun _ _=>rfl) (fun h=>absurd h (by omega)) (xP _)
  omega
 obtain⟨W,hW,f1,k1,k2,k3,s1⟩:=qZw w0 (bl e1.1) 34 prZ 122 prZ 122;simp -implicitDefEqProofs only[go_sem,jF,vJ,Tryz.f126,jM,hW];have zl:(zG 32 (0:Byte)).length=32:=lRe;refine loopD [0,1,2,7,8,9,10] (pwI w0 wd esv (.slice (some ⟨b,o,.none⟩) ([e1,e2]:List (Bs × Bs)).length cap) e1.1 e1 e2) 2 ⟨0,.slice .none 0 0,rfl,by omega,rfl,k1,k2,by rw[prZ_eq]at k3;exact k3,f1,rfl,rfl,fun b hb=>by cases hb⟩ ?_;rintro _ vs w g ⟨i,vv,rfl,hi,rfl,j1,j2,j3,f,hvo,hvv,hvb⟩
 rcases Nat.lt_or_ge i 2 with hlt | hge
 ·have d1:=dTo ((i:Int)<((([e1,e2]:List (Bs × Bs)).length:Nat):Int))
  have c1:=iSu (i:=i);have y:(0:Int)≤(i:Int)∧(i:Int)<((([e1,e2]:List (Bs × Bs)).length:Nat):Int):=by simp;omega
  have rk:=rd_d agg34 sz34 j1 hk1;have rkd:rdO prog 34 w.drew w0.heap.size 0=_:=rk
  rcases Nat.lt_or_ge i 1 with h0 | h0
  ·obtain rfl:i=0:=by omega
   rw[if_pos rfl]at hvv;subst hvv;have r1:=(hrd1 w f).1;have r1d:rdO prog 34 w.drew b (o+0*33)=_:=r1;rw[Nat.zero_mul,Nat.add_zero]at r1 r1d;have eq:=eqKey hk1 hk1;have hb:(e1.1 == e1.1)=true:=by simp
   have d0:decide (0<0)=false:=rfl;rw[d0]at j3;have j3d:w.drew.heap[w0.heap.size+2]?=_:=j3;have hsz:(prC false (.slice .none 0 0) (zG 32 0) (.slice .none 0 0)).toArray.size=35:=by rw[vC];exact prC_len zl
   have q1:wrO prog 4 w.drew (w0.heap.size+2) 0 (.bool true)=some (put w.drew (w0.heap.size+2) (.cells (prC true (.slice .none 0 0) (zG 32 0) (.slice .none 0 0)).toArray 122 (0,0))):=by
    rw[← prC_flag (f:=false)];exact wr1 sz4 rfl j3d (by rw[hsz];decide)
   have m3:=qQf (o:=.cells (prC true (.slice .none 0 0) (zG 32 0) (.slice .none 0 0)).toArray 122 (0,0)) j3d;have m1:=qQr (b:=w0.heap.size+2) (o:=.cells (prC true (.slice .none 0 0) (zG 32 0) (.slice .none 0 0)).toArray 122 (0,0)) (show w.drew.heap[w0.heap.size]?=_ from j1) (by omega);have m2:=qQr (b:=w0.heap.size+2) (o:=.cells (prC true (.slice .none 0 0) (zG 32 0) (.slice .none 0 0)).toArray 122 (0,0)) (show w.drew.heap[w0.heap.size+1]?=_ from j2) (by omega);have f3:No w0 (put w.drew (w0.heap.size+2) (.cells (prC true (.slice .none 0 0) (zG 32 0) (.slice .none 0 0)).toArray 122 (0,0))):=f.drew.put (b:=w0.heap.size+2) _ fun h=>by omega
   obtain⟨w3,hw3⟩:∃ w3,w3=put w.drew (w0.heap.size+2) (.cells (prC true (.slice .none 0 0) (zG 32 0) (.slice .none 0 0)).toArray 122 (0,0)):=⟨_,rfl⟩
   rw[← hw3]at q1 m1 m2 m3 f3;have r2:=(hrd1 w3 f3).2.1;rw[Nat.zero_mul,Nat.add_zero]at r2;simp -implicitDefEqProofs only[go_sem,jF,gLa,gLz,decide_true,y,and_self,iTn,r1d,rkd,eq,hb,q1,r2];refine qQa pl135 ((bytes12 w3 (hby1.fr0 f3) (by omega)).mono ?_);rintro v4 w4 ⟨n4,f4⟩;have hone4:=n4.by.one
   have q5:wrO prog 25 w4 (w0.heap.size+2) 1 v4=some (put w4 (w0.heap.size+2) (.cells (prC true v4 (zG 32 0) (.slice .none 0 0)).toArray 122 (0,0))):=by
    rw[← prC_val (vv:=.slice .none 0 0)];exact wr1 sz25 hone4 (f4.at m3 id) (by rw[vC,prC_len zl];decide)
   have h3s:=qQh m3;simp -implicitDefEqProofs only[go_sem,jF,q5,c1]
   exact⟨1,by omega,1,v4,rfl,by omega,rfl,qQr (f4.at m1 id) (by omega),qQr (f4.at m2 id) (by omega),qQf (f4.at m3 id),(f3.trans f4).put (b:=w0.heap.size+2) _ fun h=>by omega,hone4,
    (n4.back f3.size).put _ fun c hc h=>by have:=(n4.lt hc).1;omega,fun c hc=>by have:=(n4.lt hc).1;omega⟩
  ·obtain rfl:i=1:=by omega
   rw[if_neg (by omega)]at hvv;have r1:=(hrd2 w f).1;have r1d:rdO prog 34 w.drew b (o+1*33)=_:=r1;have eq:=eqKey hk2 hk1;have hb:(e2.1 == e1.1)=false:=by rw[bFn];exact hne
   simp -implicitDefEqProofs only[go_sem,jF,vJ,gLa,gLz,decide_true,y,and_self,iTn,r1d,rkd,eq,hb,c1];exact⟨0,by omega,2,vv,rfl,by omega,rfl,j1,j2,j3,f.drew,hvo,hvv.fr0 (Fr.refl _ _).drew,hvb⟩
 ·obtain rfl:i=2:=by omega
  rw[if_neg (by omega)]at hvv;have d1:decide (((2:Nat):Int)<((([e1,e2]:List (Bs × Bs)).length:Nat):Int))=false:=rfl;simp -implicitDefEqProofs only[go_sem,jF,gLa,gLz,d1];refine loopD [0,1,2,7,8,9,11] (pwJ w0 wd esv (.slice (some ⟨b,o,.none⟩) ([e1,e2]:List (Bs × Bs)).length cap) e1.1 e1 x2) 256 ⟨0,vv,.slice .none 0 0,rfl,by omega,rfl,j1,j2,by rw[if_pos (by omega)];exact j3,f,hvo,hvv,rfl,by rw[if_pos (by omega)],hvb,fun b hb=>(by cases hb)⟩ ?_;clear j1 j2 j3 f hvo hvv hvb d1;rintro _ vs w g ⟨h,vv,sv,rfl,hh,rfl,j1,j2,j3,f,hvo,hvv,hso,hsv,hvb,hsb⟩
  by_cases hlt:h<256
  ·rw[if_pos hlt]at j3 hsv
   subst hsv;have d1:=dTo ((h:Int)<256);have c1:=iSu (i:=h);have rk:=rd_d agg34 sz34 j1 hk1;simp -implicitDefEqProofs only[go_sem,jF,d1,rk];refine qQa pl177 ((neighbours12 w (hm.fr0 f) (by simp) hk1 hlt).mono ?_);rintro nv w2 ⟨n2,f2⟩;have hcs:common e1.1 e1.1=256:=qZf (fun _ _=>rfl) (fun h=>absurd h (by omega)) (xP _);have n2:=n2.rd f2;have h3s:=qQh j3
   by_cases h5:h=255
   ·subst h5
    have hnb:nbE e1.1 255 [e1,e2]=[e2]:=by simp[nbE,hcs,hc]
    rw[hnb]at n2;obtain⟨na,nc,rfl,_⟩:=id n2.slice;have d2:decide (((([e2]:List (Bs × Bs)).length:Nat):Int) > 0)=true:=rfl;simp -implicitDefEqProofs only[go_sem,jF,gLa,gLz,d2];refine qQa pl178 ((digest12X w2 (ht.no (f.trans f2)) wd (he.fr0 (f.trans f2)) n2 (by omega) (n:=255) (by decide) hx2).mono ?_);rintro _ w3 ⟨rfl,f3⟩;obtain⟨W4,q4,k4,f4,s4⟩:=allocD w3 (ty:=23) sz23 hx2.len;have f24:=(f2.trans f3).trans f4;have f04:=f.trans f24;have r4:=rd_d agg23 sz23 k4 hx2.len;have m3:=f24.at j3 id;have hsz:(prC true vv (zG 32 0) (.slice .none 0 0)).toArray.size=35:=by rw[vC];exact prC_len zl
    have rp:rdO prog 122 W4 (w0.heap.size+2) 0=some (.agg (prC true vv (zG 32 0) (.slice .none 0 0)).toArray):=qXz agg122 (by rw[hsz];exact sz122) m3;simp -implicitDefEqProofs only[go_sem,jF,jM,qQj,q4,r4,rp];refine qQa pl179 ((set12 W4 wd (he.fr0 f04) zl hvo (h:=255) (by decide) (by decide) hx2.len).mono ?_);rintro _ w5 ⟨f5,sv,rfl,hone5,n5⟩
    have hbl5:(setP wd (zG 32 0) 255 x2).1.length=32:=by unfold setP;split <;> simp
    have hsz5:(prC true vv (setP wd (zG 32 0) 255 x2).1 sv).toArray.size=35:=by rw[vC];exact prC_len hbl5
    have q6:wrO prog 122 w5 (w0.heap.size+2) 0 (.agg (prC true vv (setP wd (zG 32 0) 255 x2).1 sv).toArray)=some (put w5 (w0.heap.size+2) (.cells (prC true vv (setP wd (zG 32 0) 255 x2).1 sv).toArray 122 (0,0))):=qQw (by rw[hsz5];exact sz122) (f5.at m3 id) (by rw[hsz5];exact hsz) (prC_one hvo hone5);have c1:IntKind.i64.wrap (((255:Nat):Int)+1)=((256:Nat):Int):=rfl;simp -implicitDefEqProofs only[go_sem,jF,q6,c1]
    refine⟨0,by omega,256,vv,sv,rfl,by omega,rfl,qQr (f5.at (f24.at j1 id) id) (by omega),qQr (f5.at (f24.at j2 id) id) (by omega),by rw[if_neg (by omega)];exact qQf (f5.at m3 id),(f04.trans f5).put (b:=w0.heap.size+2) _ fun h=>by omega,hvo,
     ((hvv.fr0 f24).fr0 f5).put _ fun c hc h=>by have:=hvb c hc;omega,hone5,?_,hvb,fun c hc=>by have:=(n5.lt hc).1;have:=f24.size;omega⟩
    rw[if_neg (by omega)];exact (n5.back f04.size).put _ fun c hc h=>by have:=(n5.lt hc).1;have:=f24.size;omega
   ·have hnb:nbE e1.1 h [e1, e2]=[]:=by
     have a1:¬ (256=255 - h):=by omega
     have a2:¬ (0=255 - h):=by omega
     simp[nbE,hcs,hc,a1,a2]
    rw[hnb]at n2;obtain⟨na,nc,rfl,_⟩:=id n2.slice;have d2:decide (((([]:List (Bs × Bs)).length:Nat):Int) > 0)=false:=rfl;simp -implicitDefEqProofs only[go_sem,jF,gLa,gLz,d2,c1];exact⟨256 - (h+1),by omega,h+1,vv,.slice .none 0 0,rfl,by omega,rfl,f2.at j1 id,f2.at j2 id,by rw[if_pos (by omega)];exact f2.at j3 id,f.trans f2,hvo,hvv.fr0 f2,rfl,by rw[if_pos (by omega)],hvb,hsb⟩
  ·obtain rfl:h=256:=by omega
   rw[if_neg hlt]at j3 hsv;have d1:decide (((256:Nat):Int)<256)=false:=rfl
   have hbl5:(setP wd (zG 32 0) 255 x2).1.length=32:=by unfold setP;split <;> simp
   have hsz5:(prC true vv (setP wd (zG 32 0) 255 x2).1 sv).toArray.size=35:=by rw[vC];exact prC_len hbl5
   have rp:rdO prog 122 w (w0.heap.size+2) 0=some (.agg (prC true vv (setP wd (zG 32 0) 255 x2).1 sv).toArray):=qXz agg122 (by rw[hsz5];exact sz122) j3;have q6:wrO prog 122 w (w0.heap.size+1) 0 (.agg (prC true vv (setP wd (zG 32 0) 255 x2).1 sv).toArray)=some (put w (w0.heap.size+1) (.cells (prC true vv (setP wd (zG 32 0) 255 x2).1 sv).toArray 122 (0,0))):=qQw (by rw[hsz5];exact sz122) j2 (by rw[hsz5];simp[prZ]) (prC_one hvo hso);have r7:rdO prog 122 _ (w0.heap.size+1) 0=some (.agg (prC true vv (setP wd (zG 32 0) 255 x2).1 sv).toArray):=qXz agg122 (by rw[hsz5];exact sz122) (qQf (o:=.cells (prC true vv (setP wd (zG 32 0) 255 x2).1 sv).toArray 122 (0,0)) j2);simp -implicitDefEqProofs only[go_sem,jF,d1,rp,q6,r7];exact⟨f.put (b:=w0.heap.size+1) _ fun h=>by omega,vv,sv,rfl,hvo,hso,hvv.put _ fun c hc h=>by have:=hvb c hc;omega,hsv.put _ fun c hc h=>by have:=hsb c hc;omega⟩
end R
end
section
open Go.Proofs Sha
namespace R
def PrQ (w0:World)(wd:Int)(e1:Bs × Bs)(x2:Bs)(v:Value)(w':World):Prop:=No w0 w'∧∃ vv sv,v=.agg (prC true vv (setP wd (zG 32 0) 255 x2).1 sv).toArray∧one vv=true∧one sv=true∧NwB w0 w' vv e1.2∧NwD w0 w' 23 sv (setP wd (zG 32 0) 255 x2).2
theorem prove2 (w0:World)(ht:Tabs w0)(wd:Int)(hm:EnR w0 mv [e1, e2])(hc:common e2.1 e1.1=0)(hk1:e1.1.length=32)(hl1:e1.2.length≤2 ^ 30)(hl2:e2.2.length≤2 ^ 30)(hx2:Lone wd e2 255 x2) :
  Fn prog 70 #[.int .i64 wd,mv,dg e1.1] w0 (PrQ w0 wd e1 x2):=by
 refine go70 (by simp) ?_;obtain⟨W,hW,f1,k1,k2,s1⟩:=qZa w0 (bl e1.1) 34 prZ 122;simp -implicitDefEqProofs only[go_sem,jF,vJ,Tryz.f70,jM,hW];refine qQa pl57 ((empties W (ht.no f1) wd).mono ?_);rintro ev w2 ⟨n2,f2⟩;have f02:=f1.trans f2;have r2:=rd_d agg34 sz34 (f2.at k1 id) hk1;simp -implicitDefEqProofs only[go_sem,jF,r2];refine qQa pl126 ((proveWith2 w2 (ht.no f02) wd n2.rd (hm.fr0 f02) hc hl1 hl2 hx2).mono ?_);rintro _ w3 ⟨f3,vv,sv,rfl,hvo,hso,n3,d3⟩
 have hbl5:(setP wd (zG 32 0) 255 x2).1.length=32:=by unfold setP;split <;> simp
 have hsz5:(prC true vv (setP wd (zG 32 0) 255 x2).1 sv).toArray.size=35:=by rw[vC];exact prC_len hbl5
 have k3:=(f2.trans f3).at k2 id;have q6:wrO prog 122 w3 (w0.heap.size+1) 0 (.agg (prC true vv (setP wd (zG 32 0) 255 x2).1 sv).toArray)=some (put w3 (w0.heap.size+1) (.cells (prC true vv (setP wd (zG 32 0) 255 x2).1 sv).toArray 122 (0,0))):=qQw (by rw[hsz5];exact sz122) k3 (by rw[hsz5];simp[prZ]) (prC_one hvo hso);have r7:rdO prog 122 _ (w0.heap.size+1) 0=some (.agg (prC true vv (setP wd (zG 32 0) 255 x2).1 sv).toArray):=qXz agg122 (by rw[hsz5];exact sz122) (qQf (o:=.cells (prC true vv (setP wd (zG 32 0) 255 x2).1 sv).toArray 122 (0,0)) k3);have h2:=qQh (f2.at k2 id);simp -implicitDefEqProofs only[go_sem,jF,q6,r7];exact⟨(f02.trans f3).put (b:=w0.heap.size+1) _ fun h=>by omega,vv,sv,rfl,hvo,hso,(n3.back f02.size).put _ fun c hc h=>by have:=(n3.lt hc).1;omega,(d3.back f02.size).put _ fun c hc h=>by have:=(d3.lt hc).1;omega⟩
def ecI (w0:World)(bs:Bs)(n:Nat)(vs:List Value)(w:World):Prop :=
 ∃ (i:Nat) (v:Value),vs=[pt w0.heap.size 0,v,.int .i64 (i:Nat)]∧i≤bs.length∧n=bs.length - i∧NwB w0 w v (1::zK 8 bs.length::zK 8 (bs.length / 256)::bs.take i)∧No w0 w∧∀ b,qQb v=some b→b≠w0.heap.size
def ecJ (w0:World)(pre bits:Bs)(row:Obj)(n:Nat)(vs:List Value)(w:World):Prop :=
 ∃ (i:Nat) (v:Value),vs=[pt w0.heap.size 0,v,.int .i64 (i:Nat)]∧i≤bits.length∧n=bits.length - i∧NwB w0 w v (pre++bits.take i)∧No w0 w∧w.heap[w0.heap.size]?=some row∧∀ b,qQb v=some b→b≠w0.heap.size
def ecK (w0:World)(pre:Bs)(sums:List Bs)(row:Obj)(n:Nat)(vs:List Value)(w:World):Prop :=
 ∃ (i:Nat) (v:Value),vs=[pt w0.heap.size 0,v,.int .i64 (i:Nat)]∧i≤sums.length∧n=sums.length - i∧NwB w0 w v (pre++(sums.take i).flatten)∧No w0 w∧w.heap[w0.heap.size]?=some row∧∀ b,qQb v=some b→b≠w0.heap.size
def ecL (w0:World)(pre d:Bs)(j:Nat)(row:Obj)(n:Nat)(vs:List Value)(w:World):Prop :=
 ∃ (i:Nat) (v:Value),vs=[pt w0.heap.size 0,v,.int .i64 (j:Nat),.int .i64 (i:Nat)]∧i≤32∧n=32 - i∧NwB w0 w v (pre++d.take i)∧No w0 w∧w.heap[w0.heap.size]?=some row∧∀ b,qQb v=some b→b≠w0.heap.size
theorem encode12 (w0:World){bs bits:Bs}{sums:List Bs}(hv:By w0 vv bs)(hbs:bs.length≤128)(hbl:bits.length=32)(hs:RdD w0 sv sums)(hsl:sums.length=pops bits)(hvo:one vv=true)(hso:one sv=true) :
  Fn prog 71 #[.agg (prC true vv bits sv).toArray] w0 fun r w'=>No w0 w'∧∃ v,r=.tuple #[v,.int .i64 0]∧NwB w0 w' v (Wit.ansT (some bs)++bits++sums.flatten):=by
 refine go71 (by simp) ?_;obtain⟨W,hW,f1,k1,s1⟩:=qQs w0 (prC true vv bits sv).toArray 122;have hpl:=pops_le bits;have hsz:(prC true vv bits sv).toArray.size=35:=by rw[vC];exact prC_len hbl
 obtain⟨row,hrow⟩:∃ row,row=(Obj.cells (prC true vv bits sv).toArray 122 (0,0)):=⟨_,rfl⟩
 rw[← hrow]at k1;have cell0:∀ w,w.heap[w0.heap.size]?=some row→rdO prog 4 w w0.heap.size 0=some (.bool true):=fun w k=>by subst hrow;exact rd1 agg4 k rfl
 have cell1:∀ w,w.heap[w0.heap.size]?=some row→rdO prog 25 w w0.heap.size 1=some vv:=fun w k=>by subst hrow;exact rd1 agg25 k rfl
 have cell34:∀ w,w.heap[w0.heap.size]?=some row→rdO prog 94 w w0.heap.size 34=some sv:=fun w k=>by
  subst hrow;refine rd1 agg94 k ?_;rw[zX];show (kF true::vv::(bits.map u8++[sv]))[32+2]?=_;rw[vE,vE,jN (by simp[hbl])];simp[hbl]
 have cellb:∀ w i,i<32→w.heap[w0.heap.size]?=some row→rdO prog 5 w w0.heap.size (2+i)=some (.int .u8 ((bits.getD i 0).toNat:Int)):=fun w i hi k=>by
  subst hrow;refine rd1 agg5 k ?_;rw[zX,kG];show (kF true::vv::(bits.map u8++[sv]))[i+2]?=_;rw[vE,vE,zL (by simp[hbl];omega),List.getElem?_map,xO (by omega),qQi _ (by omega)];rfl
 have cellw:∀ w,w.heap[w0.heap.size]?=some row→rdO prog 22 w w0.heap.size 2=some (dg bits):=fun w k=>by
  subst hrow;refine rd_dg agg22 sz22 hbl (by decide) fun i hi=>?_;rw[qXd k,zX,kG];show (kF true::vv::(bits.map u8++[sv]))[i+2]?=_;rw[vE,vE,zL (by simp[hbl];omega)]
 obtain⟨va,vc,rfl,hvc⟩:=hv.slice;obtain⟨sa,sc,rfl,hsc⟩:=hs.slice;have d1:=dFo (((bs.length:Nat):Int) > 128);have c0:=cell0 W k1;have c0d:=cell0 W.drew k1;have c1:=cell1 W k1;have c1d:=cell1 W.drew k1;have c34:=cell34 W k1;have c34d:=cell34 W.drew k1;have cw:=cellw W k1;have cwd:=cellw W.drew k1;simp -implicitDefEqProofs only[go_sem,Tryz.f71,jM,hW];refine qXh (fun j=>j == 21) [0,1,2,3,4,5,6,7,8,9,10,11,12,13,14,15,16,17,18,19,20,21,22,23] rfl (by kernel_rfl) (by kernel_rfl) ?_;simp -implicitDefEqProofs only[go_sem,jF,Nat.reduceBEq,gLa,gLz,gLs,c0d,c1d,c34d,cwd,d1,qJu,bSe];refine qQt pl127 ((ones W.drew hbl).mono ?_);rintro _ w2 ⟨rfl,f2⟩;refine⟨fun _=>Fr.ext f2,?_⟩;have f12:No W w2:=(Fr.refl _ _).drew.trans f2;have f02:=f1.trans f12;have k2:=f12.at k1 id;have d2:(((sums.length:Nat):Int) != ((pops bits:Nat):Int))=false:=by rw[hsl];simp
 simp -implicitDefEqProofs only[go_sem,jF,Nat.reduceBEq,gLa,gLz,gLs,d2,bSe];refine qQl (v:=.slice (some ⟨w2.heap.size,0,.none⟩) 1 1) (w':=w2.alloc (.cells (bl [0]) 5)) rfl ?_;obtain⟨W3,hW3,f3,_,s3⟩:=qQs w2 (bl [0]) 5;rw[hW3];have f03:=f02.trans f3;have k3:=f3.at k2 id;have c0:=cell0 W3 k3;have c1:=cell1 W3 k3;have a0:IntKind.i64.wrap (((bs.length:Nat):Int).tdiv 256)=((bs.length / 256:Nat):Int):=by rw[show ((bs.length:Nat):Int).tdiv 256=((bs.length / 256:Nat):Int) from rfl];exact i64n
 have a1:((bs.length:Nat):Int).tmod 256=((bs.length % 256:Nat):Int):=rfl;have n0:((256:Int)=0)=False:=by simp
 have u1:=u8_of (bs.length % 256);have u2:=u8_of (bs.length / 256);simp -implicitDefEqProofs only[go_sem,jF,gLa,gLz,c0,c1,a0,a1,n0,u1,u2];refine qQl (v:=.slice (some ⟨W3.heap.size,0,.none⟩) 3 3) (w':=W3.alloc (.cells (bl [1,zK 8 (bs.length % 256),zK 8 (bs.length / 256)]) 5)) rfl ?_;have f4:No W3 (W3.alloc (.cells (bl [1,zK 8 (bs.length % 256),zK 8 (bs.length / 256)]) 5)):=(Fr.refl _ _).alloc _;have b4:NwB w0 (W3.alloc (.cells (bl [1,zK 8 (bs.length % 256),zK 8 (bs.length / 256)]) 5)) (.slice (some ⟨W3.heap.size,0,.none⟩) 3 3) [1,zK 8 (bs.length % 256),zK 8 (bs.length / 256)]:=mk_nw w0 W3 5 1 3 3 (bl _) f03.size rfl (xP _);have e8:zK 8 (bs.length % 256)=zK 8 bs.length:=by apply BitVec.eq_of_toNat_eq;simp
 rw[e8]at b4 f4 ⊢;have h3s:=qQh k3;have hb4:∀ b,qQb (.slice (some ⟨W3.heap.size,0,.none⟩) 3 3)=some b→b≠w0.heap.size:=fun b hb=>by simp only[qQb,oSi]at hb;omega
 generalize W3.alloc (.cells (bl [1,zK 8 bs.length,zK 8 (bs.length / 256)]) 5)=w4 at *;have f04:=f03.trans f4;simp -implicitDefEqProofs only[go_sem];refine loopD [1,4,5] (fun n vs w=>ecI w0 bs n vs w∧w.heap[w0.heap.size]?=some row) bs.length ⟨⟨0,_,rfl,by omega,rfl,b4,f04,hb4⟩,f4.at k3 id⟩ ?_;rintro _ vs w5 g ⟨⟨i,v,rfl,hi,rfl,b5,f5,h5⟩,k5⟩;have c1:=cell1 w5 k5
 by_cases hlt:i<bs.length
 ·have d3:=dTo ((i:Int)<((bs.length:Nat):Int))
  have y:=iBd (i:=i) (n:=bs.length);have w1:=iSu (i:=i);obtain⟨b,o,cap,he,r⟩:=(hv.fr0 f5).rd1 hlt;cases he;have hsn:=take_snoc (l:=bs) (i:=i) hlt;obtain⟨v6,w6,hr6,b6,f6,g6,m6⟩:=NwB.grow b5 (bs.getD i 0) (by simp;omega) f5
  replace b6:NwB w0 w6 v6 (1::zK 8 bs.length::zK 8 (bs.length / 256)::(bs.take i++[bs.getD i 0])):=b6
  rw[hsn]at b6;generalize bs.getD i 0=x at *;simp -implicitDefEqProofs only[go_sem,jF,gLa,gLz,c1,decide_true,y,and_self,iTn,jH,r];refine qQl (v:=.slice (some ⟨w5.heap.size,0,none⟩) 1 1) (w':=w5.alloc (.cells (bl [x]) 5)) rfl ?_;simp -implicitDefEqProofs only[go_sem,jF];refine qQg ⟨v6,w6,hr6,?_⟩;simp -implicitDefEqProofs only[go_sem,jF,w1];refine⟨bs.length - (i+1),by omega,⟨i+1,v6,rfl,by omega,rfl,b6,f6,fun c hc h=>?_⟩,g6.at k5 fun h=>h5 _ h rfl⟩
  rcases m6 c hc with h' | h'
  ·exact h5 c h' h
  ·have:=qQh k5;omega
 have d3:=dFo ((i:Int)<((bs.length:Nat):Int));obtain rfl:i=bs.length:=by omega
 rw[List.take_length]at b5;simp -implicitDefEqProofs only[go_sem,jF,gLa,gLz,c1,d3];have b5:NwB w0 w5 v (Wit.ansT (some bs)):=b5;have hla:(Wit.ansT (some bs)).length=bs.length+3:=by simp[Wit.ansT]
 generalize Wit.ansT (some bs)=pre at *;refine loopD [1,4,6] (ecJ w0 pre bits row) 32 ⟨0,v,rfl,by omega,by omega,by rw[jR,j9];exact b5,f5,k5,h5⟩ ?_;clear b5 f5 k5 h5 c1 d3;rintro _ vs w5 g ⟨i,v,rfl,hi,rfl,b5,f5,k5,h5⟩
 by_cases hlt:i<32
 ·have d3:=dTo ((i:Int)<32)
  have y:=iBd (i:=i) (n:=32);have w1:=iSu (i:=i);have r:=cellb w5 i hlt k5;have hsn:=take_snoc (l:=bits) (i:=i) (by omega);obtain⟨v6,w6,hr6,b6,f6,g6,m6⟩:=NwB.grow b5 (bits.getD i 0) (by rw[lAp,lTk];omega) f5;rw[zW,hsn]at b6;generalize bits.getD i 0=x at *;simp -implicitDefEqProofs only[go_sem,jF,d3,y,and_self,iTn,jH,r];refine qQl (v:=.slice (some ⟨w5.heap.size,0,none⟩) 1 1) (w':=w5.alloc (.cells (bl [x]) 5)) rfl ?_;simp -implicitDefEqProofs only[go_sem,jF];refine qQg ⟨v6,w6,hr6,?_⟩;simp -implicitDefEqProofs only[go_sem,jF,w1];refine⟨bits.length - (i+1),by omega,i+1,v6,rfl,by omega,rfl,b6,f6,g6.at k5 fun h=>h5 _ h rfl,fun c hc h=>?_⟩
  rcases m6 c hc with h' | h'
  ·exact h5 c h' h
  ·have:=qQh k5;omega
 have d3:=dFo ((i:Int)<32);obtain rfl:i=32:=by omega
 rw[zF (by omega)]at b5;simp -implicitDefEqProofs only[go_sem,jF,d3];have hla2:(pre++bits).length≤400:=by rw[lAp];omega
 generalize pre++bits=pre2 at *;refine loopD [1,4,7] (ecK w0 pre2 sums row) sums.length ⟨0,v,rfl,by omega,rfl,by rw[jR,List.flatten_nil,j9];exact b5,f5,k5,h5⟩ ?_;clear b5 f5 k5 h5 d3;rintro _ vs w5 g ⟨i,v,rfl,hi,rfl,b5,f5,k5,h5⟩;have c34:=cell34 w5 k5
 by_cases hlt:i<sums.length
 ·have d3:=dTo ((i:Int)<((sums.length:Nat):Int))
  have y:=iBd (i:=i) (n:=sums.length);have w1:=iSu (i:=i);have hd32:=hs.1.getD hlt;have hfl:(sums.take (i+1)).flatten=(sums.take i).flatten++sums.getD i []:=by rw[tSg hlt,List.flatten_append,List.flatten_singleton,qQi _ hlt]
  have hll:((sums.take i).flatten).length≤32*256:=by
   have:∀ (l:List Bs),All32 l→l.flatten.length=32*l.length:=by
    intro l
    induction l with
    | nil=>intro _;rfl
    | cons a l ih=>intro h;rw[List.flatten_cons,lAp,h.head,ih h.tail,List.length_cons];omega
   rw[this _ (hs.1.take i),lTk];omega
  have hby:∀ w j,No w0 w→j<32→∃ b o cap,(Value.slice sa sums.length sc)=.slice (some ⟨b,o,.none⟩) sums.length cap∧rdO prog 5 w b (o+i*32+j)=some (.int .u8 (((sums.getD i []).getD j 0).toNat:Int)):=fun w j k hj=>by
   obtain⟨b,o,cap,e,_,_⟩:=(hs.fr0 k).pos (by omega);exact⟨b,o,cap,e,by have:=hs.fr0 k;rw[e]at this;exact this.byte agg5 hlt hj⟩
  simp -implicitDefEqProofs only[go_sem,jF,gLa,gLz,c34,d3];generalize sums.getD i []=d at *;refine loopD [1,4,7,8] (ecL w0 (pre2++(sums.take i).flatten) d i row) 32 ⟨0,v,rfl,by omega,rfl,by rw[jR,j9];exact b5,f5,k5,h5⟩ ?_;clear b5 f5 k5 h5 c34;rintro _ vs w5 g ⟨j,v,rfl,hj,rfl,b5,f5,k5,h5⟩
  by_cases hjl:j<32
  ·have d4:=dTo ((j:Int)<32)
   have y2:=iBd (i:=j) (n:=32);have w2:=iSu (i:=j);have c34:=cell34 w5 k5;obtain⟨b,o,cap,he,r⟩:=hby w5 j f5 hjl;cases he;have hsn:=take_snoc (l:=d) (i:=j) (by omega);obtain⟨v6,w6,hr6,b6,f6,g6,m6⟩:=NwB.grow b5 (d.getD j 0) (by rw[lAp,lAp,lTk];omega) f5;rw[zW,hsn]at b6;generalize d.getD j 0=x at *;simp -implicitDefEqProofs only[go_sem,jF,d4,c34,y,y2,and_self,iTn,jH,r];refine qQl (v:=.slice (some ⟨w5.heap.size,0,.none⟩) 1 1) (w':=w5.alloc (.cells (bl [x]) 5)) rfl ?_;simp -implicitDefEqProofs only[go_sem,jF];refine qQg ⟨v6,w6,hr6,?_⟩;simp -implicitDefEqProofs only[go_sem,jF,w2];refine⟨32 - (j+1),by omega,j+1,v6,rfl,by omega,rfl,b6,f6,g6.at k5 fun h=>h5 _ h rfl,fun c hc h=>?_⟩
   rcases m6 c hc with h' | h'
   ·exact h5 c h' h
   ·have:=qQh k5;omega
  ·have d4:=dFo ((j:Int)<32)
   obtain rfl:j=32:=by omega
   rw[show d.take 32=d from zF (by omega),zW,← hfl]at b5;simp -implicitDefEqProofs only[go_sem,jF,d4,w1];exact⟨sums.length - (i+1),by omega,i+1,v,rfl,by omega,rfl,b5,f5,k5,h5⟩
 ·have d3:=dFo ((i:Int)<((sums.length:Nat):Int))
  obtain rfl:i=sums.length:=by omega
  rw[List.take_length]at b5;simp -implicitDefEqProofs only[go_sem,jF,gLa,gLz,c34,d3];exact⟨f5,v,rfl,b5⟩
end R
end
section
open Sha
namespace Wit
open Tw
def K0:Bs:=zG 32 0
def K1:Bs:=128::zG 31 0
def kL:Tw:=.leaf K0 255 ((empts 4 257).take 255) (some [120])
def kR:Tw:=.leaf K1 255 ((empts 4 257).take 255) (some [121])
def kT:Tw:=.fork [K0,K1] 256 256 [] kL kR
theorem take_all:All32 ((empts 4 257).take n):=R.empts_all 4 257 |>.take n
theorem klt01:klt K0 K1:=by decide +kernel
theorem kcom:common K1 K0=0:=by decide +kernel
theorem kfrm:frm [K0,K1]=256:=by decide +kernel
theorem klefts:lefts [K0,K1]=1:=by decide +kernel
theorem klen (n:Nat)(h:n≤257):((empts 4 257).take n).length=n:=by rw[lTk,qQm];omega
theorem kL_ok:kL.Ok:=⟨by decide,by decide,klen 255 (by decide),take_all,fun v h=>by cases h;decide⟩
theorem kR_ok:kR.Ok:=⟨by decide,by decide,klen 255 (by decide),take_all,fun v h=>by cases h;decide⟩
theorem kT_ok:kT.Ok:=by
 refine⟨kfrm.symm,xP _,xP _,rfl,All32.nil,?_,?_,xP _,?_,?_,rfl,rfl,kL_ok,kR_ok⟩
 ·exact List.pairwise_cons.2 ⟨fun b hb=>by simp only[List.mem_singleton]at hb;subst hb;exact klt01,List.pairwise_singleton _ _⟩
 ·exact All32.cons (by decide) (All32.one (by decide))
 ·rw[klefts];rfl
 ·rw[klefts];rfl
theorem empts_tdy (n:Nat):∀ d ∈ (empts 4 257).take n,cutD 4 d=d:=fun d hd=>by
 obtain⟨i,_,rfl⟩:=List.mem_map.1 (List.mem_of_mem_take hd);exact emptD_tdy _ _
theorem kT_tdy:Tdy 4 kT:=⟨fun d hd=>(by cases hd),empts_tdy 255,empts_tdy 255⟩
theorem lay_empts (w:Int):∀ (n h:Nat) (b s:Bs),h+n≤257→layN w h b s (((empts w 257).drop h).take n)=(b,s)
 | 0,h,b,s,_=>by rw[jR];rfl
 | n+1,h,b,s,hn=>by
  rw[List.drop_eq_getElem_cons (by rw[qQm];omega),List.take_succ_cons,layN]
  have e:(empts w 257)[h]'(by rw[qQm];omega)=emptD w h:=by
   have:=qXw w 257 (i:=h) (by omega);rw[xO (by rw[qQm];omega)]at this;exact Option.some.inj this
  rw[if_pos e];exact lay_empts w n (h+1) b s (by omega)
def kRaw:Bs:=[2]++zG 32 0++[1,1,0,120]++zG 32 0++[1,1,0,121]++zG 32 0
theorem kNear:nearT 4 0 ((empts 4 257).take 255)=zG 32 0:=by
 have:=lay_empts 4 255 0 (zG 32 0) [] (by decide);rw[List.drop_zero]at this;unfold nearT;rw[this,j9]
theorem kTxt:txt 4 kT=kRaw:=by
 have h:∀ k v,txt 4 (.leaf k 255 ((empts 4 257).take 255) (some [v]))=[1,1,0,v]++zG 32 0:=fun k v=>by
  show ansT (some [v])++nearT 4 0 ((empts 4 257).take 255)=_;rw[kNear];simp[ansT]
 have e:txt 4 kT=2::(nearT 4 256 []++(txt 4 kL++txt 4 kR)):=rfl;rw[e,kL,kR,h,h];rfl
theorem kForm:form 4 [K0,K1] kRaw=.ok (some kT):=by
 have:=form_txt kT_ok kT_tdy rfl;rw[kTxt]at this;exact this
theorem kLone0:∃ x1,R.Lone 4 (K0,[120]) 255 x1:=⟨_,rfl⟩
theorem sortW_mk (h1:1≤w∧w≤32)(h2:ks.length≤64)(h3:ks.Nodup)(h4:srt ks=l):sortW w ks=.ok l:=by
 unfold sortW sortE;rw[if_neg (by omega),if_neg (by omega),if_pos h3,h4]
theorem underP_mk {root:Bs}{raw:Bs}{t:Tw}(h1:form w ks raw=.ok (some t))(h2:dig w asIs t=root):underP w root ks raw=.ok (some t):=by
 unfold underP;rw[h1];simp only[if_pos h2]
theorem verifyP_mk {root:Bs}{raw:Bs}{t:Tw}(h1:sortW w ks=.ok l)(h2:underP w root l raw=.ok (some t)):verifyP w root ks raw=.ok (ks.map t.at):=by
 unfold verifyP;rw[h1];simp only[h2]
theorem partP_mk {raw k:Bs}{t:Tw}(h1:sortW w ks=.ok l)(h2:form w l raw=.ok (some t))(h3:k ∈ l):partP w ks raw k=.ok (txt w (part w t k)):=by
 unfold partP;rw[h1];simp only[h2,if_pos h3]
theorem kSort1:sortW 4 [K1,K0]=.ok [K0,K1]:=sortW_mk (by decide) (by decide) (by decide +kernel) (by decide +kernel)
theorem kSort0:sortW 4 [K0,K1]=.ok [K0,K1]:=sortW_mk (by decide) (by decide) (by decide +kernel) (by decide +kernel)
theorem fork_at {f top:Nat}{near:List Bs}{l r:Tw}:(Tw.fork ks f top near l r).at k=if kbit k (256 - f) then r.at k else l.at k:=rfl
theorem leaf_at {top:Nat}{near:List Bs}:(Tw.leaf k' top near a).at k=a:=rfl
theorem fork_nbrs {f top:Nat}{near:List Bs}{l r:Tw}:nbrs w (Tw.fork ks f top near l r) k=(if kbit k (256 - f) then nbrs w r k++[dig w asIs l] else nbrs w l k++[dig w asIs r])++near:=rfl
theorem leaf_nbrs {top:Nat}{near:List Bs}:nbrs w (Tw.leaf k' top near a) k=near:=rfl
theorem leaf_dig {top:Nat}{near:List Bs}{a:Bs}:dig w asIs (Tw.leaf k' top near (some a))=climb w k' 0 (leafD w k' a) near:=rfl
theorem fork_dig {f top:Nat}{l r:Tw}:dig w asIs (Tw.fork ks f top [] l r)=qQv w (dig w asIs l) (dig w asIs r):=rfl
theorem kbit0:kbit K0 (256 - 256)=false:=by decide +kernel
theorem kbit1:kbit K1 (256 - 256)=true:=by decide +kernel
theorem at0:kT.at K0=some [120]:=by unfold kT kL;rw[fork_at,kbit0,if_neg (by decide),leaf_at]
theorem at1:kT.at K1=some [121]:=by unfold kT kR;rw[fork_at,kbit1,if_pos rfl,leaf_at]
theorem kDig (h1:R.Lone 4 (K0,[120]) 255 x1)(h2:R.Lone 4 (K1,[121]) 255 x2):dig 4 asIs kT=qQv 4 x1 x2:=by
 unfold kT kL kR;rw[fork_dig,leaf_dig,leaf_dig];unfold R.Lone at h1 h2;rw[h1,h2]
theorem kVerify (h1:R.Lone 4 (K0,[120]) 255 x1)(h2:R.Lone 4 (K1,[121]) 255 x2):verifyP 4 (qQv 4 x1 x2) [K1,K0] kRaw=.ok [some [121],some [120]]:=by
 rw[verifyP_mk kSort1 (underP_mk kForm (kDig h1 h2)),List.map_cons,List.map_cons,List.map_nil,at0,at1]
theorem kPart (h2:R.Lone 4 (K1,[121]) 255 x2):partP 4 [K0,K1] kRaw K0=.ok (ansT (some [120])++(R.setP 4 (zG 32 0) 255 x2).1++(R.setP 4 (zG 32 0) 255 x2).2.flatten):=by
 rw[partP_mk kSort0 kForm (by simp)]
 have n0:nbrs 4 kT K0=(empts 4 257).take 255++[x2]:=by
  unfold R.Lone at h2;unfold kT kL kR;rw[fork_nbrs,kbit0,if_neg (by decide),leaf_nbrs,leaf_dig,j9,h2]
 have e:txt 4 (part 4 kT K0)=ansT (kT.at K0)++nearT 4 0 (nbrs 4 kT K0):=rfl;rw[e,at0,n0,zW];refine congrArg Except.ok (congrArg (ansT (some [120])++·) ?_);have hl:=lay_empts 4 255 0 (zG 32 0) [] (by decide);rw[List.drop_zero]at hl;unfold nearT;rw[layN_app,klen 255 (by decide),hl];unfold R.setP;simp only[layN,Nat.zero_add]
 by_cases hx:x2=emptD 4 255
 ·rw[if_pos hx,if_pos hx];rfl
 ·rw[if_neg hx,if_neg hx];simp
end Wit
end
end Go.V
