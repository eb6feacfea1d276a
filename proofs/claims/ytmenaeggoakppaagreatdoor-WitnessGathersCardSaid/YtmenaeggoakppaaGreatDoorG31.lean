/- Helpers. -/
import Derived.Test.YtmenaeggoakppaaGreatDoorG30
set_option linter.all false
set_option maxRecDepth 100000
set_option maxHeartbeats 8000000
open Array renaming replicate→xR,all_toList→y8
open Int renaming toNat_zero→vL
open List renaming replicate→zG,getElem?_toArray→zX,getElem?_eq_getElem→xO,size_toArray→vC,getElem?_append_right→jN,drop_eq_getElem_cons→vS,getElem_mem→vA,getElem?_cons_succ→vE,getElem_range→j6
open Nat renaming reduceEqDiff→jF,reduceAdd→vJ,zero_mul→jA,le_refl→xP,add_zero→jO,lt_irrefl→jD
open Go.Value renaming cells→jM,int→vM
open Go.V.Wit renaming Tw→vI,dig→vO,TxAt→kQ,Tx→vN,form→yI,dig_len→kX,chk→yO
section
namespace Go.V
open Go.Proofs.Tryz Go.V.Tryz
open Go.Proofs Sha
theorem cutD_zero {wd:Int}{W:Nat}(hW:wd=W){d:Bs}(hd:d.length=32):d=cutD wd d ↔ ∀ j,W≤j→j<32→d.getD j 0=0:=by
 constructor
 ·intro h j h1 h2
  have:(cutD wd d).getD j 0=0:=by
   rw[qQi _ (by rw[qXr];exact h2)];simp only[cutD,List.getElem_map,j6];rw[if_neg (by omega)]
  rw[h];exact this
 ·intro h
  refine List.ext_getElem (by rw[qXr,hd]) fun i h1 h2=>?_;simp only[cutD,List.getElem_map,j6];split
  ·rw[qQi _ h1]
  ·have:=h i (by omega) (by omega)
   rwa [qQi _ h1]at this
namespace R
def WtZ (w0 w:World)(wb:Nat)(wd:Int)(xs:List vN):Prop:=∃ u ev rv tv gv q txs gvs,No w0 u∧RdD u ev (empts wd 257)∧WiM u w wb wd ev rv tv gv q false txs gvs∧TxL u w (Mut wb tv gv) txs xs
theorem WtZ.fr0 {w0 w w':World}{wb:Nat}{wd:Int}{xs:List vN}(h:WtZ w0 w wb wd xs)(k:No w w'):WtZ w0 w' wb wd xs:=by
 obtain⟨u,ev,rv,tv,gv,q,txs,gvs,h1,h2,h3,h4⟩:=h;exact⟨u,ev,rv,tv,gv,q,txs,gvs,h1,h2,h3.fr0 k,h4.fr k fun _ _ h=>h.elim⟩
theorem WtZ.back {w0 w u:World}{wb:Nat}{wd:Int}{xs:List vN}(h:WtZ w0 w wb wd xs)(k:No u w0):WtZ u w wb wd xs:=by
 obtain⟨u',r⟩:=h;obtain⟨ev,rv,tv,gv,q,txs,gvs,h1,r⟩:=r;exact⟨u',ev,rv,tv,gv,q,txs,gvs,k.trans h1,r⟩
def WtX (w0 w:World)(wb:Nat)(wd:Int)(t:vI):Prop:=WtZ w0 w wb wd (Wit.flatT wd 0 t)
theorem WtX.fr0 {w0 w w':World}{wb:Nat}{wd:Int}{t:vI}(h:WtX w0 w wb wd t)(k:No w w'):WtX w0 w' wb wd t:=WtZ.fr0 h k
theorem WtX.back {w0 w u:World}{wb:Nat}{wd:Int}{t:vI}(h:WtX w0 w wb wd t)(k:No u w0):WtX u w wb wd t:=WtZ.back h k
def FoQ (w0:World)(wd:Int)(x:Except Int (Option vI))(r:Value)(w':World):Prop:=No w0 w'∧match x with
 | .error e=>r=.tuple #[.pointer .none,.int .i64 e]
 | .ok none=>∃ wb,r=.tuple #[pt wb 0,.int .i64 0]∧WtZ w0 w' wb wd []
 | .ok (some t)=>∃ wb,r=.tuple #[pt wb 0,.int .i64 0]∧WtX w0 w' wb wd t
def foI (w3:World)(wd:Int)(wb:Nat)(gs:List (Nat × Bs))(n:Nat)(vs:List Value)(w:World):Prop :=
 ∃ (i:Nat),vs=[.int .i64 wd,pt wb 0,.int .i64 (i:Nat)]∧i≤gs.length∧n=gs.length - i∧yO wd gs=yO wd (gs.drop i)∧No w3 w
def foJ (w4:World)(wd:Int)(W wb db i:Nat)(d:Bs)(n:Nat)(vs:List Value)(w:World):Prop :=
 ∃ (j:Nat),vs=[.int .i64 wd,pt wb 0,.int .i64 (i:Nat),pt db 0,.int .i64 (j:Nat)]∧W≤j∧j≤32∧n=32 - j∧(∀ q,W≤q→q<j→d.getD q 0=0)∧w=w4
theorem formWith (w0:World){wd:Int}{W:Nat}(hW:wd=W)(hW2:W≤32){ev kv rawv:Value}{ks:List Bs}{raw:Bs}(he:RdD w0 ev (empts wd 257))(hk:RdD w0 kv ks)(hr:By w0 rawv raw)(ha:Wit.Asc ks)(hl:ks.length≤64)(hrl:raw.length≤2 ^ 50) :
  Fn prog 130 #[ev,.int .i64 wd,kv,rawv] w0 (FoQ w0 wd (yI wd ks raw)):=by
 subst hW;refine go130 (by simp) ?_;obtain⟨ea,ec,rfl,hec⟩:=he.slice;obtain⟨ka,kc,rfl,hkc⟩:=hk.slice;obtain⟨ra,rc,rfl,hrc⟩:=hr.slice;have bldt:bldO prog 141 [(0,.int .i64 (W:Int)),(1,.slice ea (empts (W:Int) 257).length ec),(4,.slice ra raw.length rc)]=some (.agg (wiC (W:Int) (.slice ea (empts (W:Int) 257).length ec) (.slice .none 0 0) (.slice .none 0 0) (.slice ra raw.length rc) 0 false)):=rfl;obtain⟨W1,hW1,f1,k1,s1⟩:=qQs w0 (wiC (W:Int) (.slice ea (empts (W:Int) 257).length ec) (.slice .none 0 0) (.slice .none 0 0) (.slice ra raw.length rc) 0 false) 141;unfold FoQ
 by_cases h0:ks=[]
 ·subst h0
  have d1:(((([]:List Bs).length:Nat):Int) == 0)=true:=rfl
  by_cases hr0:raw=[]
  ·subst hr0
   have d2:decide (((([]:Bs).length:Nat):Int) > 0)=false:=rfl;simp -implicitDefEqProofs only[go_sem,jF,vJ,gLa,gLz,Tryz.f130,bldt,jM,hW1,d1,d2];exact⟨f1,_,rfl,w0,_,_,_,_,_,[],[],Fr.refl _ _,he,⟨k1,NwR.nil _ _ _ _,NwR.nil _ _ _ _,xP _,f1,fun b hb=>(by cases hb),fun b hb=>(by cases hb),fun b hb=>(by cases hb)⟩,rfl,fun i h=>absurd h (by simp)⟩
  ·have d2:decide (((raw.length:Nat):Int) > 0)=true:=by have:=List.length_pos_iff.2 hr0;simp;omega
   simp -implicitDefEqProofs only[go_sem,jF,vJ,gLa,gLz,Tryz.f130,bldt,jM,hW1,d1,d2];unfold yI;rw[if_pos rfl,if_neg hr0];exact⟨f1,rfl⟩
 have hp:0<ks.length:=List.length_pos_iff.2 h0;have d1:(((ks.length:Nat):Int) == 0)=false:=by rw[bFn];omega
 simp -implicitDefEqProofs only[go_sem,jF,vJ,gLa,gLz,Tryz.f130,bldt,jM,hW1,d1]
 have hrb:0<raw.length→∀ b,qQb (.slice ra raw.length rc)=some b→b≠w0.heap.size:=fun h0 b hb e=>by
  obtain⟨rb,ro,rc',e2,_⟩:=hr.pos h0;cases e2;obtain⟨_,_,_,e2,_,hat⟩:=hr;cases e2;obtain⟨_,_,e2,hat⟩:=hat (by omega);cases e2;have:=hat 0 (by omega);simp only[qQb,oSi]at hb
  have h1:rb<w0.heap.size:=by
   rw[xO (by rw[List.length_map];exact h0)]at this;exact rc_lt this
  omega
 have hM:WiM w0 W1 w0.heap.size (W:Int) (.slice ea (empts (W:Int) 257).length ec) (.slice ra raw.length rc) (.slice .none 0 0) (.slice .none 0 0) 0 false [] [] :=
  ⟨k1,NwR.nil _ _ _ _,NwR.nil _ _ _ _,xP _,f1,fun b hb=>(by cases hb),fun b hb=>(by cases hb),fun b hb=>(by cases hb)⟩
 refine qQa pl180 ((text w0 (W:Int) ks.length W1 (E:=fun _=>False) (xs:=[]) (gs:=[]) (xP _) (fun b h=>h.elim) hM hr hrb (Nat.zero_le _) hrl he hk ⟨rfl,fun i h=>absurd h (by simp)⟩ ⟨rfl,fun i h=>absurd h (by simp)⟩ (by simp;omega) (by simp;omega) ha hp (Wit.shr_zero ks) (xP _)).mono ?_);rintro r3 w3 ⟨f3,h3⟩;rw[List.drop_zero]at h3
 have f03:No w0 w3:=f1.trans' f3 fun b hb h=>by
  rcases h with h | h | h
  ·omega
  ·cases h
  ·cases h
 have hfm:yI (W:Int) ks raw=match Wit.parse (W:Int) ks.length ks 256 raw with
  | none=>.error 120
  | some p=>if p.2.2≠[] then .error 120 else if yO (W:Int) p.2.1≠0 then .error (yO (W:Int) p.2.1) else .ok (some p.1):=by
  unfold yI;rw[if_neg h0]
  cases Wit.parse (W:Int) ks.length ks 256 raw <;> rfl
 cases hpz:Wit.parse (W:Int) ks.length ks 256 raw with
 | none =>
  rw[hpz]at h3 hfm;obtain⟨⟨z,rfl⟩,tv',gv',q,h3,hq⟩:=h3;have r3:=h3.row;simp -implicitDefEqProofs only[go_sem,jF,gLa,gLz,gLs,r3,qQk,tf_beq];rw[hfm];exact⟨f03,rfl⟩
 | some x =>
  rw[hpz]at h3 hfm;simp only at hfm;obtain⟨tv,gv,q,txs,gvs,rfl,hM3,hq,hrest,tx3,gv3,_,_⟩:=h3;rw[List.nil_append]at gv3 tx3;have r3:=hM3.cell.row
  by_cases hre:x.2.2=[]
  ·have hql:q=raw.length:=by
    have:=congrArg List.length hrest;rw[hre,lDr]at this;simp at this;omega
   have d2:=dFo (((q:Nat):Int)<((raw.length:Nat):Int));simp -implicitDefEqProofs only[go_sem,jF,gLa,gLz,gLs,r3,qQk,bSe,d2];rw[if_neg (by simp[hre])]at hfm;have hpo:=Wit.parse_ok ha hk.1 hp (Wit.shr_zero ks) (xP _) hpz;have hpl:=parse_len ha hp hpz;obtain⟨ga,gc,rfl,hgc⟩:=hM3.gvr.rd.slice;have hgl:gvs.length=x.2.1.length:=gv3.1;refine loopD [1,10,11] (foI w3 (W:Int) w0.heap.size x.2.1) x.2.1.length ⟨0,rfl,by omega,rfl,rfl,Fr.refl _ _⟩ ?_;rintro _ vs w4 g4 ⟨i,rfl,hi,rfl,hch,f4⟩;have hM4:=hM3.fr0 f4;have r4:=hM4.cell.row
   by_cases hlt:i<x.2.1.length
   ·have d3:=dTo ((i:Int)<((gvs.length:Nat):Int))
    have c1:=iSu (i:=i);have hig:i<gvs.length:=by omega
    obtain⟨tn,hrow,hd32⟩:=gv3.2 i hig hlt;have hhq:=hpo.2.2.2 _ (vA hlt);have hdrop:x.2.1.drop i=x.2.1[i]::x.2.1.drop (i+1):=vS hlt;rw[hdrop,yO]at hch;obtain⟨gb,go,gc',e,_⟩:=hM4.gvr.rd.pos (by decide) (by omega);cases e;have rg:=hM4.gvr.rd.get (P:=prog) (t:=267) agg267 sz267 (by decide) hig;rw[hrow]at rg;generalize x.2.1[i]=pq at *;obtain⟨h,d⟩:=pq;simp only at hd32 hhq hch;obtain⟨gr1,gr2⟩:=gvRow_ok tn (q:=(h,d)) hd32;have y1:=iBd (i:=i) (n:=gvs.length);obtain⟨W5,hW5,f5,k5,s5⟩:=qQs w4 (#[vM .i64 0,vM .i64 0]++bl (zG 32 0)) 267;have q5:wrO prog 267 W5 w4.heap.size 0 (.agg (gvRow tn (h,d)).toArray)=some (put W5 w4.heap.size (.cells (gvRow tn (h,d)).toArray 267 (0,0))):=qQw (vs:=(gvRow tn (h,d)).toArray) (by rw[vC,gr1];exact sz267) k5 (by simp[gvRow,hd32]) (by simpa using gr2);have k6:=qQf (o:=.cells (gvRow tn (h,d)).toArray 267 (0,0)) k5;have f6:No w4 (put W5 w4.heap.size (.cells (gvRow tn (h,d)).toArray 267 (0,0))):=f5.put (b:=w4.heap.size) _ fun h=>by omega
    simp -implicitDefEqProofs only[go_sem,jF,gLa,gLz,gLs,decide_true,r4,qQk,y1,and_self,iTn,rg,jM,qQj,hW5,q5];generalize put W5 w4.heap.size (.cells (gvRow tn (h,d)).toArray 267 (0,0))=w6 at *;have hcz:=cutD_zero (W:=W) rfl hd32;refine loopD [1,10,11,12,13] (foJ w6 (W:Int) W w0.heap.size w4.heap.size i d) (32 - W) ⟨W,rfl,xP _,hW2,rfl,fun q h1 h2=>absurd h2 (by omega),rfl⟩ ?_;rintro _ vs w7 g7 ⟨j,rfl,hj1,hj2,rfl,hz,rfl⟩
    by_cases hj:j<32
    ·have d4:=dTo ((j:Int)<32)
     have c2:=iSu (i:=j);have y2:=iBd (i:=j) (n:=32)
     have rd:rdO prog 5 w7 w4.heap.size (2+j)=some (.int .u8 ((d.getD j 0).toNat:Int)):=by
      refine rd1 agg5 k6 ?_;rw[zX,Nat.add_comm];show (vM .i64 tn::vM .i64 (h:Nat)::d.map u8)[j+2]?=_;rw[vE,vE,List.getElem?_map,xO (by omega),qQi _ (by omega)];rfl
     by_cases hnz:d.getD j 0=0
     ·have e0:(((d.getD j 0).toNat:Int) != 0)=false:=by rw[hnz];rfl
      simp -implicitDefEqProofs only[go_sem,jF,d4,y2,and_self,iTn,Nat.mul_one,rd,e0,c2];refine⟨32 - (j+1),by omega,j+1,rfl,by omega,by omega,rfl,fun q h1 h2=>?_,rfl⟩
      rcases Nat.lt_or_ge q j with h | h
      ·exact hz q h1 h
      ·obtain rfl:q=j:=by omega
       exact hnz
     ·have e0:(((d.getD j 0).toNat:Int) != 0)=true:=by
       rw[bne_iff_ne];intro e;exact hnz (BitVec.eq_of_toNat_eq (by show (d.getD j 0).toNat=0;omega))
      simp -implicitDefEqProofs only[go_sem,jF,d4,y2,and_self,iTn,Nat.mul_one,rd,e0];have hne:d≠cutD (W:Int) d:=fun e=>hnz (hcz.1 e j hj1 hj);rw[if_pos hne]at hch;rw[hfm,hch];exact⟨f03.trans (f4.trans f6),rfl⟩
    ·have d4:=dFo ((j:Int)<32)
     obtain rfl:j=32:=by omega
     have heq:d=cutD (W:Int) d:=hcz.2 fun q h1 h2=>hz q h1 h2;rw[if_neg (show ¬ d≠cutD (W:Int) d from fun h=>h heq)]at hch
     have rd2:rdO prog 23 w7 w4.heap.size 2=some (dg d):=by
      refine rd_dg agg23 sz23 hd32 (by decide) fun q hq=>?_;rw[qXd k6,zX,Nat.add_comm];rfl
     have rh:rdO prog 3 w7 w4.heap.size 1=some (.int .i64 (h:Nat)):=rd1 agg3 k6 rfl;have hM7:=hM4.fr0 f6;have r7:=hM7.cell.row;have hel:(empts (W:Int) 257).length=257:=qQm _ _;obtain⟨eb,eo,ec',e,_,_⟩:=he.pos (by omega);cases e;have re:=(he.fr0 hM7.no.drew).get (P:=prog) agg23 sz23 (i:=h) (by omega);have hem:(empts (W:Int) 257).getD h []=emptD (W:Int) h:=by rw[gDq,qXw (W:Int) 257 (by omega)];rfl
     rw[hem]at re;have y3:(0:Int)≤(h:Int)∧(h:Int)<(((empts (W:Int) 257).length:Nat):Int):=by omega
     have eq:=eqDig hd32 (qQp (W:Int) h);have rd2d:rdO prog 23 w7.drew w4.heap.size 2=some (dg d):=rd2;have rhd:rdO prog 3 w7.drew w4.heap.size 1=some (.int .i64 (h:Nat)):=rh;have r7d:∀ t o,rdO prog t w7.drew w0.heap.size o=ldO prog t (some (.cells (wiC (W:Int) (.slice (some ⟨eb,eo,.none⟩) (empts (W:Int) 257).length ec) tv (.slice (some ⟨gb,go,.none⟩) gvs.length gc) (.slice ra raw.length rc) q false) 141 (0,0))) o:=r7
     by_cases hde:d=emptD (W:Int) h
     ·have hb:(d == emptD (W:Int) h)=true:=by rw[beq_iff_eq];exact hde
      simp -implicitDefEqProofs only[go_sem,jF,gLa,gLz,gLs,d4,rd2d,rhd,r7d,qQk,y3,and_self,iTn,re,eq,hb];rw[if_pos (show d=emptD (W:Int) h from hde)]at hch;rw[hfm,hch];exact⟨f03.trans (f4.trans f6.drew),rfl⟩
     ·have hb:(d == emptD (W:Int) h)=false:=by rw[bFn];exact hde
      simp -implicitDefEqProofs only[go_sem,jF,gLa,gLz,gLs,d4,rd2d,rhd,r7d,qQk,y3,and_self,iTn,re,eq,hb,c1];rw[if_neg (show ¬ d=emptD (W:Int) h from hde)]at hch;exact⟨x.2.1.length - (i+1),by omega,i+1,rfl,by omega,rfl,hch,f4.trans f6.drew⟩
   ·have d3:=dFo ((i:Int)<((gvs.length:Nat):Int))
    obtain rfl:i=x.2.1.length:=by omega
    rw[List.drop_length]at hch;have hch:yO (W:Int) x.2.1=0:=hch;simp -implicitDefEqProofs only[go_sem,jF,gLa,gLz,gLs,r4,qQk,d3];rw[hfm,if_neg (by simp[hch])];exact⟨f03.trans f4,_,rfl,w0,_,_,_,_,_,_,_,Fr.refl _ _,he,hM4,(tx3.fr f4 fun _ _ h=>h.elim).mono fun b _ h=>.inl h⟩
  ·have hql:q<raw.length:=by
    rcases Nat.lt_or_ge q raw.length with h | h
    ·exact h
    ·rw[List.drop_of_length_le h]at hrest;exact absurd hrest.symm hre
   have d2:=dTo (((q:Nat):Int)<((raw.length:Nat):Int));simp -implicitDefEqProofs only[go_sem,jF,gLa,gLz,gLs,r3,qQk,bSe,d2];rw[if_pos hre]at hfm;rw[hfm];exact⟨f03,rfl⟩
end R
end Go.V
namespace Go.V
open Go.Proofs.Tryz Go.V.Tryz
open Go.Proofs Sha
namespace R
theorem formR (w0:World)(ht:Tabs w0){wd:Int}{W:Nat}(hW:wd=W)(hW2:W≤32){kv rawv:Value}{ks:List Bs}{raw:Bs}(hk:RdD w0 kv ks)(hr:By w0 rawv raw)(ha:Wit.Asc ks)(hl:ks.length≤64)(hrl:raw.length≤2 ^ 50) :
  Fn prog 77 #[.int .i64 wd,kv,rawv] w0 (FoQ w0 wd (yI wd ks raw)):=by
 refine go77 (by simp) ?_;simp -implicitDefEqProofs only[go_sem,jF,vJ,Tryz.f77];refine qQa pl57 ((empties w0 ht wd).mono ?_);rintro ev w1 ⟨n1,f1⟩;simp -implicitDefEqProofs only[go_sem,jF];refine qQa pl130 ((formWith w1 hW hW2 n1.rd (hk.fr0 f1) (hr.fr0 f1) ha hl hrl).mono ?_);rintro r w2 ⟨f2,h2⟩;unfold FoQ
 cases hf:yI wd ks raw with
 | error e =>
  rw[hf]at h2;subst h2;simp -implicitDefEqProofs only[go_sem,jF,gLa,gLz,gLs];exact⟨f1.trans f2,trivial⟩
 | ok o =>
  rw[hf]at h2
  cases o with
  | none =>
   obtain⟨wb,rfl,h2⟩:=h2;simp -implicitDefEqProofs only[go_sem,jF,gLa,gLz,gLs];exact⟨f1.trans f2,wb,rfl,h2.back f1⟩
  | some t =>
   obtain⟨wb,rfl,h2⟩:=h2;simp -implicitDefEqProofs only[go_sem,jF,gLa,gLz,gLs];exact⟨f1.trans f2,wb,rfl,h2.back f1⟩
end R
end Go.V
end
section
namespace Go.V
open Go.Proofs.Tryz Go.V.Tryz
open Go.Proofs Sha
namespace Wit
abbrev Ch:=Bs × Bool × Bs
def Ch.ans (c:Ch):Option Bs:=if c.2.1 then none else some c.2.2
def findC:List Ch→Bs→Option Ch
 | [],_=>none
 | c::r,k=>if c.1=k then some c else findC r k
def saysC (cs:List Ch):Says:=fun k a=>match findC cs k with | none=>a | some c=>c.ans
theorem saysC_nil:saysC []=asIs:=rfl
end Wit
namespace R
def chRow (c:Wit.Ch)(vv:Value):List Value:=c.1.map u8++[.bool c.2.1,vv]
theorem chRow_len {c:Wit.Ch}(vv:Value)(h:c.1.length=32):(chRow c vv).length=34:=by simp[chRow,h]
def CsR (w:World)(v:Value)(cs:List Wit.Ch):Prop:=∃ rows,RdR w 34 v rows∧rows.length=cs.length∧∀ i (h:i<rows.length) (h':i<cs.length),∃ vv,rows[i]=chRow cs[i] vv∧cs[i].1.length=32∧one vv=true∧By w vv cs[i].2.2
theorem CsR.fr0 {w w':World}{v:Value}{cs:List Wit.Ch}(h:CsR w v cs)(k:No w w'):CsR w' v cs:=by
 obtain⟨rows,h1,h2,h3⟩:=h;refine⟨rows,h1.fr0 k,h2,fun i a b=>?_⟩;obtain⟨vv,e,l,o,y⟩:=h3 i a b;exact⟨vv,e,l,o,y.fr0 k⟩
theorem CsR.nil (w:World):CsR w (.slice Option.none 0 0) []:=⟨[],(NwR.nil w w 0 34).rd,rfl,fun i h=>absurd h (by simp)⟩
def SaysQ (w0:World)(x:Option Wit.Ch)(r:Value)(w':World):Prop:=No w0 w'∧match x with
 | none=>∃ row,r=.tuple #[.agg row,.bool false]∧row.size=34∧row.all one=true
 | some c=>∃ vv,r=.tuple #[.agg (chRow c vv).toArray,.bool true]∧c.1.length=32∧one vv=true∧By w0 vv c.2.2
def syI (w1:World)(cv:Value)(cs:List Wit.Ch)(kb cb:Nat)(k:Bs)(n:Nat)(vs:List Value)(w:World):Prop :=
 ∃ (i:Nat),vs=[cv,pt kb 0,pt cb 0,.int .i64 (i:Nat)]∧i≤cs.length∧n=cs.length - i∧Wit.findC cs k=Wit.findC (cs.drop i) k∧No w1 w
theorem says (w0:World){cv:Value}{cs:List Wit.Ch}(hc:CsR w0 cv cs)(hcl:cs.length≤2 ^ 40){k:Bs}(hk:k.length=32) :
  Fn prog 162 #[cv,dg k] w0 (SaysQ w0 (Wit.findC cs k)):=by
 refine go162 (by simp) ?_;obtain⟨rows,hR,hRl,hrow⟩:=hc;obtain⟨ca,cc,rfl,hcc⟩:=hR.slice;have zrow:(xR 32 (vM .u8 0)++#[Value.bool false,Value.slice .none 0 0]).size=34:=rfl;obtain⟨W,hW,f1,k1,k2,s1⟩:=qZa w0 (bl k) 34 (xR 32 (vM .u8 0)++#[.bool false,.slice .none 0 0]) 181;simp -implicitDefEqProofs only[go_sem,jF,Tryz.f162,jM,hW];refine loopD [0,3,4,6] (syI W (.slice ca rows.length cc) cs w0.heap.size (w0.heap.size+1) k) cs.length ⟨0,rfl,by omega,rfl,rfl,Fr.refl _ _⟩ ?_;rintro _ vs w2 g ⟨i,rfl,hi,rfl,hf,f2⟩;have f02:=f1.trans f2;unfold SaysQ
 by_cases hlt:i<cs.length
 ·have hir:i<rows.length:=by omega
  have d1:=dTo ((i:Int)<((rows.length:Nat):Int));have y1:=iBd (i:=i) (n:=rows.length);have c1:=iSu (i:=i);have hdrop:cs.drop i=cs[i]::cs.drop (i+1):=vS hlt;rw[hdrop,Wit.findC]at hf;obtain⟨vv,he,hl32,hov,hby⟩:=hrow i hir hlt;obtain⟨b,o,cap,e,_⟩:=hR.pos (by decide) (by omega);cases e
  have rk:∀ w,No w0 w→rdO prog 34 w b (o+i*34)=some (dg cs[i].1):=fun w fw=>by
   refine (hR.fr0 fw).sub agg34 sz34 (by decide) hir (j:=0) (by decide) (xs:=cs[i].1.map u8) (by simp[hl32]) fun q hq=>?_;rw[he,Nat.zero_add,chRow,List.getElem?_append_left (by simp[hl32];omega)]
  have rr:∀ w,No w0 w→rdO prog 181 w b (o+i*34)=some (.agg (chRow cs[i] vv).toArray):=fun w fw=>by
   rw[← he];exact (hR.fr0 fw).get agg181 sz181 (by decide) hir
  have rkd:=rk w2.drew f02.drew;have rk2:=rk w2 f02;have r3:=rd_d agg34 sz34 (f2.at k1 id) hk;have r3d:rdO prog 34 w2.drew w0.heap.size 0=some (dg k):=r3;have rrd:=rr w2.drew f02.drew;have rr2:=rr w2 f02;have eq:=eqKey hl32 hk;have hch:(chRow cs[i] vv).length=34:=chRow_len vv hl32;have hsz:(chRow cs[i] vv).toArray.size=34:=by rw[vC,hch]
  have hall:((chRow cs[i] vv).toArray).all one=true:=by
   have:=(hR.1 _ (vA hir)).2;rw[he]at this;simpa using this
  have q4:wrO prog 181 w2.drew (w0.heap.size+1) 0 (.agg (chRow cs[i] vv).toArray)=some (put w2.drew (w0.heap.size+1) (.cells (chRow cs[i] vv).toArray 181 (0,0))) :=
   qQw (by rw[vC,hch];exact sz181) (show w2.drew.heap[w0.heap.size+1]?=_ from f2.at k2 id) (zrow.trans hsz.symm) hall
  have k4:=qQf (w:=w2.drew) (o:=.cells (chRow cs[i] vv).toArray 181 (0,0)) (f2.at k2 id);have r4:rdO prog 181 _ (w0.heap.size+1) 0=some (.agg (chRow cs[i] vv).toArray):=qXz agg181 (by rw[vC,hch];exact sz181) k4;have f4:No w0 (put w2.drew (w0.heap.size+1) (.cells (chRow cs[i] vv).toArray 181 (0,0))):=f02.drew.put (b:=w0.heap.size+1) _ fun h=>by omega
  by_cases hkk:cs[i].1=k
  ·have hb:(cs[i].1 == k)=true:=by rw[beq_iff_eq];exact hkk
   simp -implicitDefEqProofs only[go_sem,jF,gLa,gLz,y1,and_self,iTn,rkd,r3d,eq,hb,rrd,q4,r4];rw[hf,if_pos hkk];exact⟨f4,vv,rfl,hl32,hov,hby⟩
  ·have hb:(cs[i].1 == k)=false:=by rw[bFn];exact hkk
   simp -implicitDefEqProofs only[go_sem,jF,gLa,gLz,y1,and_self,iTn,rkd,r3d,eq,hb,c1];rw[if_neg hkk]at hf;exact⟨cs.length - (i+1),by omega,i+1,rfl,by omega,rfl,hf,f2.drew⟩
 ·have d1:=dFo ((i:Int)<((rows.length:Nat):Int))
  obtain rfl:i=cs.length:=by omega
  rw[List.drop_length]at hf;have bld0:bldO prog 181 []=some (.agg (xR 32 (vM .u8 0)++#[.bool false,.slice .none 0 0])):=rfl
  have q4:wrO prog 181 w2 (w0.heap.size+1) 0 (.agg (xR 32 (vM .u8 0)++#[.bool false,.slice .none 0 0]))=some (put w2 (w0.heap.size+1) (.cells (xR 32 (vM .u8 0)++#[.bool false,.slice .none 0 0]) 181 (0,0))) :=
   qQw sz181 (f2.at k2 id) rfl (by rw[← y8];rfl)
  have k4:=qQf (o:=.cells (xR 32 (vM .u8 0)++#[.bool false,.slice .none 0 0]) 181 (0,0)) (f2.at k2 id);have r4:rdO prog 181 _ (w0.heap.size+1) 0=some (.agg (xR 32 (vM .u8 0)++#[.bool false,.slice .none 0 0])):=qXz agg181 sz181 k4;simp -implicitDefEqProofs only[go_sem,jF,gLa,gLz,d1,bld0,q4,r4];rw[hf];exact⟨f02.put (b:=w0.heap.size+1) _ fun h=>by omega,_,rfl,rfl,by rw[← y8];rfl⟩
end R
end Go.V
end
section
namespace Go.V
open Go.Proofs.Tryz Go.V.Tryz
open Go.Proofs Sha
namespace R
theorem WiAt.no {w w':World}{wb:Nat}{wd:Int}{ev tv gv rv:Value}{p:Nat}{bad:Bool}(h:WiAt w wb wd ev tv gv rv p bad)(k:No w w'):WiAt w' wb wd ev tv gv rv p bad:=k.at h id
def WtY (u w:World)(wb:Nat)(wd:Int)(xs:List vN):Prop:=∃ ev rv tv gv q txs gvs,RdD u ev (empts wd 257)∧WiM u w wb wd ev rv tv gv q false txs gvs∧TxL u w (Mut wb tv gv) txs xs
theorem WtY.fr0 {u w w':World}{wb:Nat}{wd:Int}{xs:List vN}(h:WtY u w wb wd xs)(k:No w w'):WtY u w' wb wd xs:=by
 obtain⟨ev,rv,tv,gv,q,txs,gvs,h2,h3,h4⟩:=h;exact⟨ev,rv,tv,gv,q,txs,gvs,h2,h3.fr0 k,h4.fr k fun _ _ h=>h.elim⟩
theorem WtX.y {w0 w:World}{wb:Nat}{wd:Int}{t:vI}(h:WtX w0 w wb wd t):∃ u,No w0 u∧WtY u w wb wd (Wit.flatT wd 0 t):=by
 obtain⟨u,ev,rv,tv,gv,q,txs,gvs,h1,h2,h3,h4⟩:=h;exact⟨u,h1,ev,rv,tv,gv,q,txs,gvs,h2,h3,h4⟩
theorem WtY.text {u w:World}{wb:Nat}{wd:Int}{xs:List vN}(h:WtY u w wb wd xs){i:Nat}{x:vN}(hx:xs[i]?=some x):∃ ev tb to tc gv rv q kv nv vv, WiAt w wb wd ev (.slice (some ⟨tb, to, Option.none⟩) xs.length tc) gv rv q false∧RdD w ev (empts wd 257) ∧
  (∀ w',No w w'→rdO prog 220 w' tb (to+i*8)=some (.agg (txC kv x.top x.fr nv (x.left:Nat) (x.right:Nat) x.ans.isSome vv)))∧(∀ w' j (t:Nat),No w w'→aggO prog t=some false→j<8→rdO prog t w' tb (to+i*8+j)=(txC kv x.top x.fr nv (x.left:Nat) (x.right:Nat) x.ans.isSome vv)[j]?) ∧
  RdD w kv x.keys∧RdD w nv x.near∧By w vv (x.ans.getD [])∧(txC kv x.top x.fr nv (x.left:Nat) (x.right:Nat) x.ans.isSome vv).all one=true:=by
 obtain⟨ev,rv,tv,gv,q,txs,gvs,h2,h3,h4⟩:=h;obtain⟨hi,rfl⟩:=List.getElem?_eq_some_iff.1 hx;have hir:i<txs.length:=by have:=h4.1;omega
 obtain⟨kv,nv,vv,hrow,hk,hn,hv,_⟩:=h4.2 i hir hi;obtain⟨tb,to,tc,rfl,_⟩:=h3.txr.rd.pos (by decide) (by omega);have hall:=(h3.txr.1 _ (vA hir)).2;have hc:=h3.cell;have e:txs.length=xs.length:=h4.1;refine⟨ev,tb,to,tc,gv,rv,q,kv,nv,vv,by rw[← e];exact hc,h2.fr0 h3.no,fun w' k=>?_,fun w' j t k ha hj=>?_,hk.fr0 h3.no,hn.rd,hv.by,?_⟩
 ·have:=(h3.txr.rd.fr0 k).get (P:=prog) (t:=220) agg220 sz220 (by decide) hir
  rw[hrow]at this;exact this
 ·have hq:txs[i][j]?=(txC kv xs[i].top xs[i].fr nv (xs[i].left:Nat) (xs[i].right:Nat) xs[i].ans.isSome vv)[j]?:=by rw[hrow,zX]
  have hl:txs[i].length=8:=(h3.txr.1 _ (vA hir)).1;rw[← hq,xO (by omega)];exact (h3.txr.rd.fr0 k).fld ha hir hj (xO (by omega))
 ·rw[hrow]at hall
  rw[← y8];exact hall
theorem allocT (w:World){row:Array Value}(hs:row.size=8)(h:row.all one=true):∃ W, wrO prog 220 (w.alloc (.cells #[.slice Option.none 0 0, .int .i64 0, .int .i64 0, .slice Option.none 0 0, .int .i64 0, .int .i64 0, .bool false, .slice Option.none 0 0] 220)) w.heap.size 0 (.agg row)=some W ∧
  W.heap[w.heap.size]?=some (.cells row 220 (0,0))∧No w W∧W.heap.size=w.heap.size+1:=by
 have k:=qQc w (.cells #[.slice .none 0 0,.int .i64 0,.int .i64 0,.slice .none 0 0,.int .i64 0,.int .i64 0,.bool false,.slice .none 0 0] 220);refine⟨_,qQw (vs:=row) (by rw[hs];exact sz220) k (by rw[hs];rfl) h,qQf k,((Fr.refl _ _).alloc _).put (b:=w.heap.size) _ fun h=>absurd h (jD _),?_⟩;simp[put]
theorem allocD (w:World){ty:TypeId}(hz:szO prog ty=some 32){d:Bs}(hd:d.length=32):∃ W, wrO prog ty (w.alloc (.cells (bl (zG 32 0)) ty)) w.heap.size 0 (dg d)=some W ∧
  W.heap[w.heap.size]?=some (.cells (bl d) ty (0,0))∧No w W∧W.heap.size=w.heap.size+1:=by
 have k:=qQc w (.cells (bl (zG 32 0)) ty);refine⟨_,wr_d hz k zl32 hd,qQf k,((Fr.refl _ _).alloc _).put (b:=w.heap.size) _ fun h=>absurd h (jD _),?_⟩;simp[put]
theorem allocC (w:World){row:Array Value}(hs:row.size=34)(h:row.all one=true):∃ W, wrO prog 181 (w.alloc (.cells (xR 32 (vM .u8 0)++#[.bool false, .slice Option.none 0 0]) 181)) w.heap.size 0 (.agg row)=some W ∧
  W.heap[w.heap.size]?=some (.cells row 181 (0,0))∧No w W∧W.heap.size=w.heap.size+1:=by
 have k:=qQc w (.cells (xR 32 (vM .u8 0)++#[.bool false,.slice .none 0 0]) 181);refine⟨_,qQw (vs:=row) (by rw[hs];exact sz181) k (by rw[hs];rfl) h,qQf k,((Fr.refl _ _).alloc _).put (b:=w.heap.size) _ fun h=>absurd h (jD _),?_⟩;simp[put]
def ChL (cs:List Wit.Ch):Prop:=cs.length≤2 ^ 40∧∀ c ∈ cs,c.2.2.length≤549755813888
theorem findC_mem {cs:List Wit.Ch}{k:Bs}{c:Wit.Ch}(h:Wit.findC cs k=some c):c ∈ cs:=by
 induction cs with
 | nil=>cases h
 | cons d r ih =>
  rw[Wit.findC]at h;split at h
  ·cases h;simp
  ·exact List.mem_cons_of_mem _ (ih h)
def bDig (wd:Int)(cs:List Wit.Ch)(wb i:Nat)(cv:Value)(w0:World)(t:vI):Prop:=Fn prog 210 #[pt wb 0,.int .i64 (i:Nat),cv] w0 fun v w'=>v=dg (Wit.base wd (Wit.saysC cs) t)∧No w0 w'
def dDig (wd:Int)(cs:List Wit.Ch)(wb i:Nat)(cv:Value)(w0:World)(t:vI):Prop:=Fn prog 134 #[pt wb 0,.int .i64 (i:Nat),cv] w0 fun v w'=>v=dg (vO wd (Wit.saysC cs) t)∧No w0 w'
theorem baseF (u w0:World)(ht:Tabs w0){wb i:Nat}{wd:Int}{xs:List vN}(hY:WtY u w0 wb wd xs){ks:List Bs}{f top:Nat}{near:List Bs}{l r:vI}(hok:(Wit.Tw.fork ks f top near l r).Ok)(hx:kQ wd xs i (.fork ks f top near l r)){cv:Value}{cs:List Wit.Ch}(hxl:xs.length≤2 ^ 40)
  (hl:∀ w li,No w0 w→kQ wd xs li l→dDig wd cs wb li cv w l) (hr:∀ w li,No w0 w→kQ wd xs li r→dDig wd cs wb li cv w r):bDig wd cs wb i cv w0 (.fork ks f top near l r):=by
 refine go210 (by simp) ?_;obtain⟨li,ri,hx,hxl',hxr'⟩:=hx;obtain⟨ev,tb,to,tc,gv,rv,q,kv,nv,vv,hc,he,hrt,hrf,hkv,hnv,hvv,hall⟩:=hY.text hx;dsimp only[Option.isSome,Option.getD]at hrt hrf hkv hnv hvv hall;have hil:=(List.getElem?_eq_some_iff.1 hx).1;obtain⟨W1,hW1,f1,k1,s1⟩:=qQs w0 (bl (zG 32 0)) 23;have r1:=(hc.no f1).row;have rt:=hrt W1 f1;obtain⟨W2,q2,k2,f2,s2⟩:=allocT W1 (row:=txC kv top f nv (li:Nat) (ri:Nat) false vv) rfl hall;have y1:=iBd (i:=i) (n:=xs.length);have r2:=qQo (P:=prog) k2;have hfp:=hok.f_pos;have d1:=dTo (((f:Nat):Int) > 0);simp -implicitDefEqProofs only[go_sem,jF,vJ,gLa,gLz,gLs,Tryz.f210,jM,qQj,hW1,r1,qQk,y1,and_self,iTn,rt,q2,r2,d1];have f02:=f1.trans f2;refine qQa pl134 ((hl W2 li f02 hxl').mono ?_);rintro _ w3 ⟨rfl,f3⟩;have ll:(vO wd (Wit.saysC cs) l).length=32:=kX _ _ _;obtain⟨W4,q4,k4,f4,s4⟩:=allocD w3 (ty:=23) sz23 ll;have f04:=(f02.trans f3).trans f4;have r4:=qQo (P:=prog) ((f3.trans f4).at k2 id);simp -implicitDefEqProofs only[go_sem,jF,gLa,gLz,gLs,jM,qQj,q4,r4,qQk];refine qQa pl134 ((hr W4 ri f04 hxr').mono ?_);rintro _ w5 ⟨rfl,f5⟩;have lr:(vO wd (Wit.saysC cs) r).length=32:=kX _ _ _;obtain⟨W6,q6,k6,f6,s6⟩:=allocD w5 (ty:=23) sz23 lr;have f06:=(f04.trans f5).trans f6;have r6:=(hc.no f06).row;have k46:=(f5.trans f6).at k4 id;have ra:=rd_d agg23 sz23 k46 ll;have rb:=rd_d agg23 sz23 k6 lr;have rad:rdO prog 23 W6.drew w3.heap.size 0=_:=ra;have rbd:rdO prog 23 W6.drew w5.heap.size 0=_:=rb;have r6d:∀ t o,rdO prog t W6.drew wb o=_:=r6;simp -implicitDefEqProofs only[go_sem,jF,gLa,gLz,jM,qQj,q6,r6d,rad,rbd,qQk];refine qQa pl100 ((branch W6.drew (ht.no f06.drew) wd ll lr).mono ?_);rintro _ w7 ⟨rfl,f7⟩;have lb:(qQv wd (vO wd (Wit.saysC cs) l) (vO wd (Wit.saysC cs) r)).length=32:=qQz _ _ _
 have f07:=f06.drew.trans f7
 have k7:=((((f2.trans f3).trans f4).trans f5).trans f6).drew.trans f7 |>.at k1 id
 have q8:=wr_d sz23 k7 zl32 lb;have r8:=rd_d agg23 sz23 (qQf (o:=.cells (bl (qQv wd (vO wd (Wit.saysC cs) l) (vO wd (Wit.saysC cs) r))) 23 (0,0)) k7) lb;simp -implicitDefEqProofs only[go_sem,jF,q8,r8];exact⟨rfl,f07.put (b:=w0.heap.size) _ fun h=>by omega⟩
theorem baseL (u w0:World)(ht:Tabs w0){wb i:Nat}{wd:Int}{xs:List vN}(hY:WtY u w0 wb wd xs){k:Bs}{top:Nat}{near:List Bs}{a:Option Bs}(hok:(Wit.Tw.leaf k top near a).Ok)(hx:kQ wd xs i (.leaf k top near a)){cv:Value}{cs:List Wit.Ch}(hxl:xs.length≤2 ^ 40)
  (hcs:CsR w0 cv cs) (hcl:ChL cs):bDig wd cs wb i cv w0 (.leaf k top near a):=by
 refine go210 (by simp) ?_;have hx:xs[i]?=_:=hx;obtain⟨ev,tb,to,tc,gv,rv,q,kv,nv,vv,hc,he,hrt,hrf,hkv,hnv,hvv,hall⟩:=hY.text hx;dsimp only at hrt hrf hkv hnv hvv hall;have hil:=(List.getElem?_eq_some_iff.1 hx).1;have hk:=hok.1;obtain⟨W1,hW1,f1,k1,s1⟩:=qQs w0 (bl (zG 32 0)) 23;have r1:=(hc.no f1).row;have rt:=hrt W1 f1;obtain⟨W2,q2,k2,f2,s2⟩:=allocT W1 (row:=txC kv top 0 nv (0:Nat) (0:Nat) a.isSome vv) rfl hall;have f02:=f1.trans f2;have y1:=iBd (i:=i) (n:=xs.length);have r2:=qQo (P:=prog) k2;have d1:decide (((0:Nat):Int) > 0)=false:=rfl;obtain⟨kb,ko,kc,rfl,_,_⟩:=(hkv.fr0 f02).pos (by simp)
 have rk:rdO prog 34 W2 kb ko=some (dg k):=by
  have:=(hkv.fr0 f02).get (P:=prog) agg34 sz34 (i:=0) (by simp);rw[jA,jO]at this;exact this
 have y2:(0:Int)≤0∧(0:Int)<((([k]:List Bs).length:Nat):Int):=by simp
 obtain⟨W3,q3,k3,f3,s3⟩:=allocD W2 (ty:=34) sz34 hk;have f03:=f02.trans f3;have r3:=rd_d agg34 sz34 k3 hk;simp -implicitDefEqProofs only[go_sem,jF,vJ,gLa,gLz,gLs,Tryz.f210,jM,qQj,hW1,r1,qQk,y1,and_self,iTn,rt,q2,r2,d1,y2,rk,q3,r3,vL,jA];refine qQa pl162 ((says W3 (hcs.fr0 f03) hcl.1 hk).mono ?_);rintro r w4 ⟨f4,h4⟩;have f04:=f03.trans f4;obtain⟨eb,eo,ec,rfl,_,_⟩:=he.pos (by rw[qQm];decide);have hbase:Wit.base wd (Wit.saysC cs) (.leaf k top near a)=Wit.ldig wd k (match Wit.findC cs k with | none=>a | some c=>c.ans):=rfl;have y3:(0:Int)≤0∧(0:Int)<(((empts wd 257).length:Nat):Int):=by rw[qQm];decide
 cases hfc:Wit.findC cs k with
 | none =>
  rw[hfc]at h4 hbase;obtain⟨row,rfl,hrs,hra⟩:=h4;obtain⟨W5,q5,k5,f5,s5⟩:=allocC w4 hrs hra;have f05:=f04.trans f5;have r5:=qQo (P:=prog) (((f3.trans f4).trans f5).at k2 id);have rw5:=(hc.no f05).row
  cases a with
  | none =>
   have re:rdO prog 23 W5 eb eo=some (dg (emptD wd 0)):=by
    have:=(he.fr0 f05).get (P:=prog) agg23 sz23 (i:=0) (by rw[qQm];decide);rw[jA,jO,gDq,qXw wd 257 (by decide)]at this;exact this
   have q6:=wr_d sz23 ((((f2.trans f3).trans f4).trans f5).at k1 id) zl32 (qQp wd 0);have k6:=qQf (o:=.cells (bl (emptD wd 0)) 23 (0,0)) ((((f2.trans f3).trans f4).trans f5).at k1 id);have r6:=rd_d agg23 sz23 k6 (qQp wd 0);simp -implicitDefEqProofs only[go_sem,jF,gLa,gLz,gLs,jM,q5,r5,rw5,qQk,Option.isSome,y3,re,q6,r6,vL,jA];exact⟨by rw[hbase];rfl,f05.put (b:=w0.heap.size) _ fun h=>by omega⟩
  | some val =>
   have r3':=rd_d agg34 sz34 ((f4.trans f5).at k3 id) hk;have r3d:rdO prog 34 W5.drew W2.heap.size 0=some (dg k):=r3';have rwd:∀ t o,rdO prog t W5.drew wb o=_:=rw5;simp -implicitDefEqProofs only[go_sem,jF,gLa,gLz,gLs,jM,q5,r5,rwd,qQk,r3d,Option.isSome];refine qQa pl101 ((leaf W5.drew (ht.no f05.drew) wd hk (val:=val) ((hvv.fr0 f05).fr0 (Fr.refl _ _).drew) (by have:=hok.2.2.2.2 val rfl;omega)).mono ?_);rintro _ w6 ⟨rfl,f6⟩;have ll:(leafD wd k val).length=32:=qZb _ _ _;have f06:=f05.drew.trans f6;have k6:=((((f2.trans f3).trans f4).trans f5).drew.trans f6).at k1 id;have q7:=wr_d sz23 k6 zl32 ll;have r7:=rd_d agg23 sz23 (qQf (o:=.cells (bl (leafD wd k val)) 23 (0,0)) k6) ll;simp -implicitDefEqProofs only[go_sem,jF,q7,r7];exact⟨by rw[hbase];rfl,f06.put (b:=w0.heap.size) _ fun h=>by omega⟩
 | some c =>
  rw[hfc]at h4 hbase;obtain⟨cvv,rfl,hl32,hov,hby⟩:=h4;have hrs:(chRow c cvv).toArray.size=34:=by rw[vC,chRow_len cvv hl32]
  have hra:(chRow c cvv).toArray.all one=true:=by
   rw[← y8]
   have h1:(c.1.map u8).all one=true:=by
    rw[List.all_eq_true];intro x hx;obtain⟨y,_,rfl⟩:=List.mem_map.1 hx
    rfl
   simp only[chRow,List.all_append,List.all_cons,List.all_nil,hov,h1,Bool.and_true,Bool.true_and]
   rfl
  obtain⟨W5,q5,k5,f5,s5⟩:=allocC w4 hrs hra;have f05:=f04.trans f5;have r5:=qQo (P:=prog) (((f3.trans f4).trans f5).at k2 id);have rw5:=(hc.no f05).row;have g1:rdO prog 4 W5 w4.heap.size 32=some (.bool c.2.1):=qJc agg4 k5 (by rw[zX,chRow,jN (by simp[hl32])];simp[hl32]);have g2:rdO prog 25 W5 w4.heap.size 33=some cvv:=qJc agg25 k5 (by rw[zX,chRow,jN (by simp[hl32])];simp[hl32]);have hcv:=hcl.2 c (findC_mem hfc);have hby:=hby.fr0 (f4.trans f5);obtain⟨ck,cdel,cval⟩:=c;dsimp only at *
  cases cdel with
  | true =>
   have re:rdO prog 23 W5 eb eo=some (dg (emptD wd 0)):=by
    have:=(he.fr0 f05).get (P:=prog) agg23 sz23 (i:=0) (by rw[qQm];decide);rw[jA,jO,gDq,qXw wd 257 (by decide)]at this;exact this
   have q6:=wr_d sz23 ((((f2.trans f3).trans f4).trans f5).at k1 id) zl32 (qQp wd 0);have k6:=qQf (o:=.cells (bl (emptD wd 0)) 23 (0,0)) ((((f2.trans f3).trans f4).trans f5).at k1 id);have r6:=rd_d agg23 sz23 k6 (qQp wd 0);simp -implicitDefEqProofs only[go_sem,jF,gLa,gLz,gLs,jM,q5,r5,rw5,qQk,g1,g2,y3,re,q6,r6,vL,jA];exact⟨by rw[hbase];rfl,f05.put (b:=w0.heap.size) _ fun h=>by omega⟩
  | false =>
   have r3':=rd_d agg34 sz34 ((f4.trans f5).at k3 id) hk;have r3d:rdO prog 34 W5.drew W2.heap.size 0=some (dg k):=r3';have rwd:∀ t o,rdO prog t W5.drew wb o=_:=rw5;simp -implicitDefEqProofs only[go_sem,jF,gLa,gLz,gLs,jM,q5,r5,rwd,qQk,r3d,g1,g2];refine qQa pl101 ((leaf W5.drew (ht.no f05.drew) wd hk (val:=cval) (hby.fr0 (Fr.refl _ _).drew) (by simpa using hcv)).mono ?_);rintro _ w6 ⟨rfl,f6⟩;have ll:(leafD wd k cval).length=32:=qZb _ _ _;have f06:=f05.drew.trans f6;have k6:=((((f2.trans f3).trans f4).trans f5).drew.trans f6).at k1 id;have q7:=wr_d sz23 k6 zl32 ll;have r7:=rd_d agg23 sz23 (qQf (o:=.cells (bl (leafD wd k cval)) 23 (0,0)) k6) ll;simp -implicitDefEqProofs only[go_sem,jF,q7,r7];exact⟨by rw[hbase];rfl,f06.put (b:=w0.heap.size) _ fun h=>by omega⟩
def clI (w3:World)(zb wb tb db top:Nat)(wd:Int)(t:vI)(x full:Bs)(g:Nat)(n:Nat)(vs:List Value)(w:World):Prop :=
 ∃ (h:Nat) (d:Bs),vs=[pt wb 0,.int .i64 (g:Nat),pt zb 0,pt tb 0,pt db 0,.int .i64 (h:Nat)]∧t.fr≤h∧h≤g∧n=g - h∧d.length=32∧full=climb wd t.key h d ((t.near.drop (h - t.fr)).take (g - h))∧w.heap[db]?=some (.cells (bl d) 23 (0,0))∧Fr (fun b=>b=db) w3 w
theorem climbedF (u w0:World)(ht:Tabs w0){wb i:Nat}{wd:Int}{xs:List vN}(hY:WtY u w0 wb wd xs){t:vI}(hok:t.Ok)(hx:kQ wd xs i t){cv:Value}{cs:List Wit.Ch}(hxl:xs.length≤2 ^ 40)
  (hb:∀ w,No w0 w→bDig wd cs wb i cv w t) {g:Nat} (hg1:t.fr≤g) (hg2:g≤t.top):Fn prog 181 #[pt wb 0,.int .i64 (i:Nat),cv,.int .i64 (g:Nat)] w0 fun v w'=>v=dg (climb wd t.key t.fr (Wit.base wd (Wit.saysC cs) t) (t.near.take (g - t.fr)))∧No w0 w':=by
 obtain⟨x,hx,e1,e2,e3,e4⟩:∃ x,xs[i]?=some x∧x.top=t.top∧x.fr=t.fr∧x.keys=t.keys∧∀ h,t.fr≤h→h<t.top→x.near.getD h []=t.near.getD (h - t.fr) []∧h<x.near.length:=by
  cases t with
  | leaf k top near a=>exact⟨_,hx,rfl,rfl,rfl,fun h h1 h2=>⟨by simp only[Wit.Tw.near,Wit.Tw.fr,Nat.sub_zero],by have:=hok.2.2.1;simp only[Wit.Tw.top]at h2;simp only;omega⟩⟩
  | fork ks f top near l r =>
   obtain⟨_,_,h,_⟩:=hx;have hft:=hok.2.1;have htt:=hok.2.2.1;have hl:((empts wd 257).take f).length=f:=by rw[lTk,qQm];omega
   refine⟨_,h,rfl,rfl,rfl,fun h h1 h2=>?_⟩;simp only[Wit.Tw.near,Wit.Tw.fr,Wit.Tw.top]at *;refine⟨?_,by rw[lAp,hl,hok.2.2.2.1];omega⟩;rw[gDq,gDq,jN (by omega),hl]
 refine go181 (by simp) ?_;obtain⟨ev,tb,to,tc,gv,rv,q,kv,nv,vv,hc,he,hrt,hrf,hkv,hnv,hvv,hall⟩:=hY.text hx;rw[e1,e2]at hrt hrf hall;have hil:=(List.getElem?_eq_some_iff.1 hx).1;have htop:=hok.top_le;obtain⟨W1,hW1,f1,k1,s1⟩:=qQs w0 (bl (zG 32 0)) 23;have r1:=(hc.no f1).row;have rt:=hrt W1 f1;obtain⟨W2,q2,k2,f2,s2⟩:=allocT W1 (row:=txC kv t.top t.fr nv (x.left:Nat) (x.right:Nat) x.ans.isSome vv) rfl hall;have f02:=f1.trans f2;have y1:=iBd (i:=i) (n:=xs.length);have r2:=qQo (P:=prog) k2;simp -implicitDefEqProofs only[go_sem,jF,vJ,gLa,gLz,gLs,Tryz.f181,jM,qQj,hW1,r1,qQk,y1,and_self,iTn,rt,q2];refine qQa pl210 ((hb W2 f02).mono ?_);rintro _ w3 ⟨rfl,f3⟩;have hbl:(Wit.base wd (Wit.saysC cs) t).length=32:=Wit.base_len _ _ _;obtain⟨W4,q4,k4,f4,s4⟩:=allocD w3 (ty:=23) sz23 hbl;have f04:=(f02.trans f3).trans f4;have k24:=(f3.trans f4).at k2 id;have r4:=qQo (P:=prog) k24;simp -implicitDefEqProofs only[go_sem,jF,gLa,gLz,gLs,jM,qQj,q4,r4,qQk];have hnl:=hok.near_len;have h12:W1.heap.size<w3.heap.size:=by have:=qQh (f3.at k2 id);omega
 have h02:w0.heap.size<w3.heap.size:=by have:=f3.size;have:=f2.size;omega
 generalize hfull:climb wd t.key t.fr (Wit.base wd (Wit.saysC cs) t) (t.near.take (g - t.fr))=full;refine loopD [0,3,8,9,10,11] (clI W4 w0.heap.size wb W1.heap.size w3.heap.size t.top wd t (Wit.base wd (Wit.saysC cs) t) full g) (g - t.fr) ⟨t.fr,_,rfl,xP _,hg1,rfl,hbl,by rw[Nat.sub_self,List.drop_zero,hfull],k4,Fr.refl _ _⟩ ?_;rintro _ vs w5 gg ⟨h,d,rfl,hh1,hh2,rfl,hdl,hfl,k5,f5⟩;have k25:=f5.at k24 (by omega);have f05:No w0 w5:=f04.trans' f5 fun b hb e=>by omega
 have r5:=qQo (P:=prog) k25
 by_cases hlt:h<g
 ·have d1:=dTo ((h:Int)<(g:Int))
  have c1:=iSu (i:=h);have c2:IntKind.i64.wrap (255 - (h:Int))=((255 - h:Nat):Int):=qXl (a:=255) (by omega) (by omega);have hkp:=hok.keys_pos;have hkl:=hok.key_len;rw[e3]at hkv;obtain⟨kb',ko,kc,rfl,_,_⟩:=(hkv.fr0 f05).pos hkp
  have rk:rdO prog 34 w5 kb' ko=some (dg t.key):=by
   have:=(hkv.fr0 f05).get (P:=prog) agg34 sz34 (i:=0) hkp;rw[jA,jO,← qKg]at this;exact this
  have y2:(0:Int)<((t.keys.length:Nat):Int):=by omega
  have e4':=e4 h hh1 (by omega);obtain⟨nb,no,nc,rfl,_,_⟩:=hnv.pos (by omega);have y3:=iBd (i:=h) (n:=x.near.length);simp -implicitDefEqProofs only[go_sem,jF,gLa,gLz,d1,r5,qQk,y2,rk,Int.le_refl,and_self,if_true,vL,jA,c2];refine qQa pl166 ((bit3 w5 hkl (i:=255 - h) (by omega)).mono ?_);rintro _ w6 ⟨rfl,f6⟩;have f06:=f05.trans f6;have k26:=f6.at k25 id;have r6:=qQo (P:=prog) k26;have r6d:∀ t o,rdO prog t w6.drew W1.heap.size o=_:=r6;have rw6:=(hc.no f06).row;have rw6d:∀ t o,rdO prog t w6.drew wb o=_:=rw6;have k56:=f6.at k5 id;have rd6:=rd_d agg23 sz23 k56 hdl;have rd6d:rdO prog 23 w6.drew w3.heap.size 0=_:=rd6;have rn:=(hnv.fr0 f06).get (P:=prog) agg23 sz23 (i:=h) e4'.2;rw[e4'.1]at rn;have rnd:rdO prog 23 w6.drew nb (no+h*32)=_:=rn;have hnn:(t.near.getD (h - t.fr) []).length=32:=hok.near32.getD (by omega)
  have hstep:(t.near.drop (h - t.fr)).take (g - h)=t.near.getD (h - t.fr) []::(t.near.drop (h+1 - t.fr)).take (g - (h+1)):=by
   rw[vS (by omega),show g - h=(g - (h+1))+1 by omega,List.take_succ_cons,qQi _ (by omega),show h - t.fr+1=h+1 - t.fr by omega]
  rw[hstep,climb]at hfl;unfold up at hfl;unfold kb
  by_cases hbit:kbit t.key (255 - h)=true
  ·rw[if_pos hbit]at hfl
   rw[if_pos hbit];have d0:((1:Int) == 0)=false:=rfl;simp -implicitDefEqProofs only[go_sem,jF,gLa,gLz,gLs,d0,r6d,rw6d,qQk,rd6d,y3,and_self,iTn,rnd];refine qQa pl100 ((branch w6.drew (ht.no f06.drew) wd hnn hdl).mono ?_);rintro _ w7 ⟨rfl,f7⟩;have lb:(qQv wd (t.near.getD (h - t.fr) []) d).length=32:=qQz _ _ _;have k57:w7.heap[w3.heap.size]?=_:=f7.at (w:=w6.drew) k56 id;have q8:=wr_d sz23 k57 hdl lb;simp -implicitDefEqProofs only[go_sem,jF,q8,c1];exact⟨g - (h+1),by omega,h+1,_,rfl,by omega,by omega,rfl,lb,hfl,qQf k57,(((f5.trans (f6.drew.mono fun _ _ h=>h.elim)).trans (f7.mono fun _ _ h=>h.elim))).put (b:=w3.heap.size) _ fun _=>rfl⟩
  ·rw[if_neg hbit]at hfl
   rw[if_neg hbit];have d0:((0:Int) == 0)=true:=rfl;simp -implicitDefEqProofs only[go_sem,jF,gLa,gLz,gLs,d0,r6d,rw6d,qQk,rd6d,y3,and_self,iTn,rnd];refine qQa pl100 ((branch w6.drew (ht.no f06.drew) wd hdl hnn).mono ?_);rintro _ w7 ⟨rfl,f7⟩;have lb:(qQv wd d (t.near.getD (h - t.fr) [])).length=32:=qQz _ _ _;have k57:w7.heap[w3.heap.size]?=_:=f7.at (w:=w6.drew) k56 id;have q8:=wr_d sz23 k57 hdl lb;simp -implicitDefEqProofs only[go_sem,jF,q8,c1];exact⟨g - (h+1),by omega,h+1,_,rfl,by omega,by omega,rfl,lb,hfl,qQf k57,(((f5.trans (f6.drew.mono fun _ _ h=>h.elim)).trans (f7.mono fun _ _ h=>h.elim))).put (b:=w3.heap.size) _ fun _=>rfl⟩
 ·have d1:=dFo ((h:Int)<(g:Int))
  obtain rfl:h=g:=by omega
  rw[Nat.sub_self,List.take_zero]at hfl;have hfl:full=d:=hfl;subst hfl;have rd5:=rd_d agg23 sz23 k5 hdl;have k15:=f5.at (((f2.trans f3).trans f4).at k1 id) (by omega);have q6:=wr_d sz23 k15 zl32 hdl;have r6:=rd_d agg23 sz23 (qQf (o:=.cells (bl full) 23 (0,0)) k15) hdl;simp -implicitDefEqProofs only[go_sem,jF,d1,rd5,q6,r6];exact f05.put (b:=w0.heap.size) _ fun h=>by omega
theorem digOf (u w0:World)(ht:Tabs w0){wb i:Nat}{wd:Int}{xs:List vN}(hY:WtY u w0 wb wd xs){t:vI}(hok:t.Ok)(hx:kQ wd xs i t){cv:Value}{cs:List Wit.Ch}(hxl:xs.length≤2 ^ 40)
  (hb:∀ w,No w0 w→bDig wd cs wb i cv w t):dDig wd cs wb i cv w0 t:=by
 refine go134 (by simp) ?_
 obtain⟨x,hx',e1⟩:∃ x,xs[i]?=some x∧x.top=t.top:=by
  cases t with
  | leaf k top near a=>exact⟨_,hx,rfl⟩
  | fork ks f top near l r=>obtain⟨_,_,h,_⟩:=hx;exact⟨_,h,rfl⟩
 obtain⟨ev,tb,to,tc,gv,rv,q,kv,nv,vv,hc,he,hrt,hrf,hkv,hnv,hvv,hall⟩:=hY.text hx';rw[e1]at hrf;have hil:=(List.getElem?_eq_some_iff.1 hx').1;obtain⟨W1,hW1,f1,k1,s1⟩:=qQs w0 (bl (zG 32 0)) 23;have r1:=(hc.no f1).row;have rt:=hrf W1 1 3 f1 agg3 (by decide);have y1:=iBd (i:=i) (n:=xs.length);simp -implicitDefEqProofs only[go_sem,jF,vJ,gLa,gLz,gLs,Tryz.f134,jM,qQj,hW1,r1,qQk,y1,and_self,iTn,rt];refine qQa pl181 ((climbedF u W1 (ht.no f1) (hY.fr0 f1) hok hx hxl (fun w f=>hb w (f1.trans f)) hok.fr_le (xP _)).mono ?_);rintro _ w2 ⟨rfl,f2⟩
 have e:climb wd t.key t.fr (Wit.base wd (Wit.saysC cs) t) (t.near.take (t.top - t.fr))=vO wd (Wit.saysC cs) t:=by
  rw[← hok.near_len,List.take_length];rfl
 rw[e];have hl:=kX wd (Wit.saysC cs) t;have k2:=f2.at k1 id;have q3:=wr_d sz23 k2 zl32 hl;have r3:=rd_d agg23 sz23 (qQf (o:=.cells (bl (vO wd (Wit.saysC cs) t)) 23 (0,0)) k2) hl;simp -implicitDefEqProofs only[go_sem,jF,q3,r3];exact (f1.trans f2).put (b:=w0.heap.size) _ fun h=>by omega
theorem base (u:World){wb:Nat}{wd:Int}{xs:List vN}(hxl:xs.length≤2 ^ 40){cv:Value}{cs:List Wit.Ch}(hcl:ChL cs):∀ (t:vI) (w0:World) (i:Nat),Tabs w0→WtY u w0 wb wd xs→t.Ok→kQ wd xs i t→CsR w0 cv cs→bDig wd cs wb i cv w0 t
 | .leaf _ _ _ _,w0,_,ht,hY,hok,hx,hcs=>baseL u w0 ht hY hok hx hxl hcs hcl
 | .fork _ _ _ _ l r,w0,_,ht,hY,hok,hx,hcs=>by
  obtain⟨_,_,_,_,_,_,_,_,_,_,_,_,h13,h14⟩:=id hok
  exact baseF u w0 ht hY hok hx hxl (fun w li f h=>digOf u w (ht.no f) (hY.fr0 f) h13 h hxl fun w2 f2=>base u hxl hcl l w2 li ((ht.no f).no f2) ((hY.fr0 f).fr0 f2) h13 h ((hcs.fr0 f).fr0 f2))
   (fun w li f h=>digOf u w (ht.no f) (hY.fr0 f) h14 h hxl fun w2 f2=>base u hxl hcl r w2 li ((ht.no f).no f2) ((hY.fr0 f).fr0 f2) h14 h ((hcs.fr0 f).fr0 f2))
theorem digest (u:World){wb:Nat}{wd:Int}{xs:List vN}(hxl:xs.length≤2 ^ 40){cv:Value}{cs:List Wit.Ch}(hcl:ChL cs){t:vI}{w0:World}{i:Nat}(ht:Tabs w0)(hY:WtY u w0 wb wd xs)(hok:t.Ok)(hx:kQ wd xs i t)(hcs:CsR w0 cv cs) :
  dDig wd cs wb i cv w0 t:=digOf u w0 ht hY hok hx hxl fun w f=>base u hxl hcl t w i (ht.no f) (hY.fr0 f) hok hx (hcs.fr0 f)
theorem root (u w0:World)(ht:Tabs w0){wb:Nat}{wd:Int}{t:vI}(hY:WtY u w0 wb wd (Wit.flatT wd 0 t))(hok:t.Ok)(hs:t.size≤2 ^ 40){cv:Value}{cs:List Wit.Ch}(hcs:CsR w0 cv cs)(hcl:ChL cs) :
  Fn prog 85 #[pt wb 0,cv] w0 fun v w'=>v=dg (vO wd (Wit.saysC cs) t)∧No w0 w':=by
 refine go85 (by simp) ?_;have hlen:=Wit.flatT_len wd t 0;have hsp:=t.size_pos;have hx:kQ wd (Wit.flatT wd 0 t) (t.size - 1) t:=by have:=Wit.flat_at' wd t [];simpa using this
 obtain⟨W1,hW1,f1,k1,s1⟩:=qQs w0 (bl (zG 32 0)) 23;have hY1:=hY.fr0 f1;obtain⟨ev,rv,tv,gv,q,txs,gvs,h2,h3,h4⟩:=id hY1;obtain⟨ta,tc,rfl,_⟩:=h3.txr.rd.slice;have r1:=h3.cell.row;have htl:txs.length=t.size:=h4.1.trans hlen;have c1:IntKind.i64.wrap (((txs.length:Nat):Int) - 1)=((t.size - 1:Nat):Int):=by rw[htl];exact qXl (b:=1) (by omega) (by omega)
 simp -implicitDefEqProofs only[go_sem,jF,gLa,gLz,gLs,Tryz.f85,jM,qQj,hW1,r1,qQk,c1];refine qQa pl134 ((digest u (by omega) hcl (ht.no f1) hY1 hok hx (hcs.fr0 f1)).mono ?_);rintro _ w2 ⟨rfl,f2⟩;have hl:=kX wd (Wit.saysC cs) t;have k2:=f2.at k1 id;have q3:=wr_d sz23 k2 zl32 hl;have r3:=rd_d agg23 sz23 (qQf (o:=.cells (bl (vO wd (Wit.saysC cs) t)) 23 (0,0)) k2) hl;simp -implicitDefEqProofs only[go_sem,jF,q3,r3];exact (f1.trans f2).put (b:=w0.heap.size) _ fun h=>by omega
end R
end Go.V
end
