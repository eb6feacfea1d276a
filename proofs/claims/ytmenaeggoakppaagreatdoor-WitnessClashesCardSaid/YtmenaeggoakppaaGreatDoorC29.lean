/- Helpers. -/
import Derived.Test.YtmenaeggoakppaaGreatDoorC28
import Derived.Test.YtmenaeggoakppaaGreatDoorC21
import Derived.Test.YtmenaeggoakppaaGreatDoorC11
set_option linter.all false
set_option maxRecDepth 100000
set_option maxHeartbeats 8000000
open Array renaming replicate→xR,size_setIfInBounds→vR
open List renaming getElem_append_right→jU,getElem_append_left→jF,replicate→zG,length_singleton→jZ
open Nat renaming reduceEqDiff→jR,min_eq_left→vU
open Go.Value renaming int→vT,cells→jS
open Go.V.Wit renaming lefts→yE,frm→yI,Tx→vL
namespace Go.V
open Go.Proofs.Tryz Go.V.Tryz
open Go.Proofs Sha
variable {bad:Bool} {wd:Int} {gs:List (Nat × Bs)} {ks:List Bs} {xs:List vL} {p wb:Nat} {F M M':Nat→Prop} {kv v:Value} {u w w':World}
namespace Wit
def gvA (f top:Nat)(bs:Bs):Option (List (Nat × Bs) × Bs):=if bs.length<32 then none else gvP f top (bs.take 32) 256 0 (bs.drop 32)
theorem nearP_gvA (w:Int)(f top:Nat)(bs:Bs):nearP w f top bs=(gvA f top bs).map fun p=>(fill f (((empts w 257).drop f).take (top - f)) p.1,p.1,p.2):=by
 unfold nearP gvA
 split <;> rfl
end Wit
namespace R
def gvRow (tn:Int)(q:Nat × Bs):List Value:=.int .i64 tn::.int .i64 (q.1:Nat)::q.2.map u8
theorem gvRow_ok (tn:Int){q:Nat × Bs}(h:q.2.length=32):(gvRow tn q).length=34∧(gvRow tn q).all one=true:=by
 refine⟨by simp[gvRow,h],?_⟩;simp only[gvRow,List.all_cons,Bool.and_eq_true];exact⟨rfl,rfl,qXr _⟩
theorem bldGv {g:Nat}{d:Bs}(hd:d.length=32):bldO prog 267 [(1,.int .i64 (g:Nat)),(2,dg d)]=some (.agg (gvRow 0 (g,d)).toArray):=by
 simp only[bldO,zero267,places267,Option.bind_some];rw[qXo (off:=1) rfl rfl (by simp[jS]),qZy (off:=2) (n:=32) rfl (by simp[jS,hd]) (by rw[vR];show 34≤(#[vT .i64 0,vT .i64 0]++xR 32 (vT .u8 0)).size;simp),fill_nil',Option.map_some]
 congr 2
 apply Array.toList_inj.1;have e:(dg d).cells.toList=d.map u8:=rfl;rw[e,qXq _ _ _ (by rw[vR];show _≤(#[vT .i64 0,vT .i64 0]++xR 32 (vT .u8 0)).size;simp[hd])];show ((#[vT .i64 0,vT .i64 0]++xR 32 (vT .u8 0)).setIfInBounds 1 (.int .i64 (g:Nat))).toList.take 2++d.map u8++((#[vT .i64 0,vT .i64 0]++xR 32 (vT .u8 0)).setIfInBounds 1 (.int .i64 (g:Nat))).toList.drop (2+(d.map u8).length)=_;simp[gvRow,hd]
def NrX (res:Option (List (Nat × Bs) × Bs))(gl:List (Nat × Bs))(rest:Bs)(bd:Bool):Prop:=match res with
 | none=>bd=true
 | some x=>bd=false∧x=(gl,rest)
def NrQ (w0:World)(wb:Nat)(wd:Int)(ev tv gv rv:Value)(f top p:Nat)(bad:Bool)(raw:Bs)(r:Value)(w':World):Prop:=Fr (fun b=>b=wb) w0 w'∧∃ (gl:List (Nat × Bs)) (q:Nat) (bad':Bool),
 WiAt w' wb wd ev tv gv rv q bad'∧q≤raw.length∧NwR w0 w' 267 34 r (gl.map (gvRow 0))∧(∀ x ∈ gl,x.2.length=32)∧gl.length≤256 ∧
 NrX (if bad=true then none else Wit.gvA f top (raw.drop p)) gl (raw.drop q) bad'
def nqI (w1:World)(wb:Nat)(wd:Int)(ev tv gv rv bv:Value)(f top:Nat)(raw bits:Bs)(res:Option (List (Nat × Bs) × Bs))(n:Nat)(vs:List Value)(w:World):Prop :=
 ∃ (g:Nat) (lv:Value) (gl:List (Nat × Bs)) (q:Nat) (bad:Bool),vs=[pt wb 0,.int .i64 (f:Nat),.int .i64 (top:Nat),bv,lv,.int .i64 (g:Nat)]∧g≤256∧n=256 - g∧WiAt w wb wd ev tv gv rv q bad∧q≤raw.length ∧
  NwR w1 w 267 34 lv (gl.map (gvRow 0))∧(∀ x ∈ gl,x.2.length=32)∧gl.length≤g∧Fr (fun b=>b=wb) w1 w ∧
  (bad=true→res=none)∧(bad=false→res=(Wit.gvP f top bits (256 - g) g (raw.drop q)).map fun x=>(gl++x.1,x.2))
def nqJ (w1:World)(wb db:Nat)(bv lv nv:Value)(f top g:Nat)(bs:Bs)(n:Nat)(vs:List Value)(w:World):Prop :=
 ∃ (i:Nat),vs=[pt wb 0,.int .i64 (f:Nat),.int .i64 (top:Nat),bv,lv,.int .i64 (g:Nat),nv,pt db 0,.int .i64 (i:Nat)]∧i≤32∧n=32 - i∧w.heap[db]?=some (.cells (bl (bs.take i++zG (32 - i) 0)) 23 (0,0))∧Fr (fun b=>b=db) w1 w
theorem nearW (u w0:World){ev tv gv rv:Value}{f top p:Nat}{raw:Bs}(h:WiAt w0 wb wd ev tv gv rv p bad)(hr:By u rv raw)(no:No u w0)(hu:u.heap.size≤wb)(hrb:0<raw.length→∀ b, qQb rv=some b→b≠wb)(hp:p≤raw.length)(hl:raw.length≤2 ^ 50)
  (hf:f≤256) (ht:top≤256):Fn prog 209 #[pt wb 0,.int .i64 (f:Nat),.int .i64 (top:Nat)] w0 (NrQ w0 wb wd ev tv gv rv f top p bad raw):=by
 refine go209 (by simp) ?_;simp -implicitDefEqProofs only[go_sem,jR,Nat.reduceAdd,Tryz.f209];refine qQa pl208 ((taken u w0 h hr no hu hrb hp hl (k:=32) (by decide)).mono ?_);rintro bv w1 ⟨f1,bits,hbits,hbl,hbw,h1⟩;have hbw:=hbw (by omega);simp -implicitDefEqProofs only[go_sem];have hwb:wb<w0.heap.size:=qQi h;obtain⟨bb,bo,bc,rfl,hbc⟩:=hbits.pos (by omega);rw[hbl]at hbits hbc ⊢
 have start:∃ q bad',WiAt w1 wb wd ev tv gv rv q bad'∧q≤raw.length∧(bad'=true→(if bad=true then none else Wit.gvA f top (raw.drop p))=none)∧(bad'=false→(if bad=true then none else Wit.gvA f top (raw.drop p))=(Wit.gvP f top bits 256 0 (raw.drop q)).map fun x=>([]++x.1,x.2)):=by
  by_cases hb:bad=true∨raw.length<p+32
  ·rw[if_pos hb]at h1
   refine⟨p,true,h1,hp,fun _=>?_,fun h=>(by cases h)⟩
   rcases hb with rfl | hb
   ·rfl
   ·split
    ·rfl
    ·unfold Wit.gvA;rw[if_pos (by rw[lDr];omega)]
  ·rw[if_neg hb]at h1
   obtain⟨h1,hbs⟩:=h1;have hbf:¬ bad=true:=fun h=>hb (.inl h);refine⟨p+32,false,h1,by omega,fun h=>(by cases h),fun _=>?_⟩;rw[if_neg hbf];unfold Wit.gvA;rw[if_neg (by rw[lDr];omega),hbs,List.drop_drop]
   cases Wit.gvP f top ((raw.drop p).take 32) 256 0 (raw.drop (p+32)) <;> rfl
 obtain⟨q1,bad1,h1,hq1,hs1,hs2⟩:=start;unfold NrQ;generalize (if bad=true then none else Wit.gvA f top (raw.drop p))=res at *;refine loopD [0,1,2,7,8,9] (nqI w1 wb wd ev tv gv rv (.slice (some ⟨bb,bo,.none⟩) 32 bc) f top raw bits res) 256 ⟨0,_,[],q1,bad1,rfl,by omega,rfl,h1,hq1,NwR.nil _ _ _ _,fun x hx=>(by cases hx),Nat.le_refl _,Fr.refl _ _,hs1,hs2⟩ ?_;rintro _ vs w2 g' ⟨g,lv,gl,q,bad2,rfl,hg,rfl,h2,hq,n2,hgl,hgn,f2,i1,i2⟩;have r2:=h2.row;have hlw:∀ b,qQb lv=some b→b≠wb:=fun b hb e=>by have:=(n2.lt hb).1;have:=f1.size;omega
 have f02:=f1.trans f2
 have fin:∀ bd:Bool,(bd=true→res=none)→(bd=false→res=some (gl,raw.drop q))→NrX res gl (raw.drop q) bd:=fun bd a b=>by
  cases bd
  ·rw[b rfl];exact⟨rfl,rfl⟩
  ·rw[a rfl];rfl
 by_cases hlt:g<256
 ·have d1:=dTo ((g:Int)<256)
  cases bad2 with
  | true =>
   simp -implicitDefEqProofs only[go_sem,jR,gLa,gLz,gLs,d1,r2,qQk,bSe];refine⟨f02,gl,q,true,h2,hq,n2.back f1.size,hgl,by omega,fin true i1 fun h=>(by cases h)⟩
  | false =>
   have rb1:=(By.fr hbits f2 fun b hb _ e=>hbw b hb e).get (P:=prog) agg5 (i:=g / 8) (by omega);have a0:IntKind.i64.wrap ((g:Int).tdiv 8)=((g / 8:Nat):Int):=by rw[show (g:Int).tdiv 8=((g / 8:Nat):Int) from rfl];exact i64n
   have a1:(g:Int).tmod 8=((g % 8:Nat):Int):=rfl;have y0:(0:Int)≤((g / 8:Nat):Int)∧((g / 8:Nat):Int)<((32:Nat):Int):=by omega
   have n0:((8:Int)=0)=False:=by simp
   have c3:IntKind.u64.wrap ((g % 8:Nat):Int)=((g % 8:Nat):Int):=u64n (by omega);have c4:(((g % 8:Nat):Int)<0)=False:=eq_false (by omega);have hand:=mbit_and bits g;have c1:=iSu (i:=g);have hgv:=fun h=>gvP_skip (f:=f) (top:=top) (bits:=bits) (rest:=raw.drop q) hlt h;have hno:=fun h=>gvP_no (f:=f) (top:=top) (bits:=bits) (rest:=raw.drop q) hlt h;have hon:=fun h=>gvP_one (f:=f) (top:=top) (bits:=bits) (rest:=raw.drop q) hlt h;generalize bits.getD (g / 8) 0=bx at *
   cases hm:Wit.mbit bits g with
   | false =>
    have e:(andK .u8 (shrK .u8 (bx.toNat:Int) ((g % 8:Nat):Int)) 1 == 0)=true:=by rw[hand,hm];rfl
    simp -implicitDefEqProofs only[go_sem,jR,gLa,gLz,gLs,d1,r2,qQk,bSe,y0,rb1,a0,a1,n0,c3,c4,e,c1];exact⟨256 - (g+1),by omega,g+1,lv,gl,q,false,rfl,by omega,rfl,h2,hq,n2,hgl,by omega,f2,fun h=>(by cases h),fun _=>by rw[i2 rfl,hgv hm]⟩
   | true =>
    have e:(andK .u8 (shrK .u8 (bx.toNat:Int) ((g % 8:Nat):Int)) 1 == 0)=false:=by rw[hand,hm];rfl
    by_cases hrg:g<f∨top≤g
    ·obtain⟨w3,q3,h3,f3⟩:=h2.setBad
     have hres:res=none:=by rw[i2 rfl,hno hm (.inr hrg)];rfl
     have fin2:Fr (fun b=>b=wb) w0 w3∧∃ (gl:List (Nat × Bs)) (q:Nat) (bad':Bool),WiAt w3 wb wd ev tv gv rv q bad'∧q≤raw.length∧NwR w0 w3 267 34 (.slice .none 0 0) (gl.map (gvRow 0))∧(∀ x ∈ gl,x.2.length=32)∧gl.length≤256∧NrX res gl (raw.drop q) bad' :=
      ⟨f02.trans f3,[],q,true,h3,hq,NwR.nil _ _ _ _,fun x hx=>(by cases hx),by simp,by rw[hres];rfl⟩
     by_cases hgf:g<f
     ·have d2:=dTo ((g:Int)<(f:Int))
      simp -implicitDefEqProofs only[go_sem,jR,gLa,gLz,gLs,d1,r2,qQk,qJe,bSe,y0,rb1,a0,a1,n0,c3,c4,e,d2,q3];exact fin2
     ·have d2:=dFo ((g:Int)<(f:Int))
      have d3:=dTo ((g:Int) ≥ (top:Int));simp -implicitDefEqProofs only[go_sem,jR,gLa,gLz,gLs,d1,r2,qQk,bSe,y0,rb1,a0,a1,n0,c3,c4,e,d2,d3,q3];exact fin2
    ·have d2:=dFo ((g:Int)<(f:Int))
     have d3:=dFo ((g:Int) ≥ (top:Int));have nou:No u w2:=no.trans' f02 fun b hb e=>by omega
     simp -implicitDefEqProofs only[go_sem,jR,gLa,gLz,gLs,d1,r2,qQk,bSe,y0,rb1,a0,a1,n0,c3,c4,e,d2,d3];refine qQa pl208 ((taken u w2 h2 hr nou hu hrb hq hl (k:=32) (by decide)).mono ?_);rintro b3v w3 ⟨f3,bs,hbs,hbsl,hbsw,h3⟩;obtain⟨W4,hW4,f4,k4,s4⟩:=qQm w3 (bl (zG 32 0)) 23;obtain⟨b3,o3,c3',rfl,hbc3⟩:=hbs.pos (by omega);rw[hbsl]at hbs hbc3 ⊢;simp -implicitDefEqProofs only[go_sem,qQj,hW4];refine loopD [0,1,2,7,8,9,10,11,12] (nqJ W4 wb w3.heap.size (.slice (some ⟨bb,bo,.none⟩) 32 bc) lv (.slice (some ⟨b3,o3,.none⟩) 32 c3') f top g bs) 32 ⟨0,rfl,by omega,rfl,by rw[List.take_zero];exact k4,Fr.refl _ _⟩ ?_;rintro _ vs w5 g5 ⟨i,rfl,hi,rfl,k5,f5⟩
     by_cases hi2:i<32
     ·have d4:=dTo ((i:Int)<32)
      have c2:=iSu (i:=i);have y4:=iBd (i:=i) (n:=32);have rb5:=(By.fr hbs ((f4.mono fun _ _ h=>h.elim).trans f5:Fr (fun b=>b=w3.heap.size) w3 w5) fun b hb hlt e=>by omega).get (P:=prog) agg5 (i:=i) (by omega)
      have hset:(bs.take i++zG (32 - i) 0).set i (bs.getD i 0)=bs.take (i+1)++zG (32 - (i+1)) 0:=by
       rw[← take_snoc (l:=bs) (i:=i) (by omega),List.set_append_right _ _ (by rw[lTk];omega),lTk,vU (by omega),Nat.sub_self,show 32 - i=(32 - (i+1))+1 by omega,List.replicate_succ,List.set_cons_zero,List.append_assoc];rfl
      have q5:wrO prog 5 w5 w3.heap.size i (u8 (bs.getD i 0))=some (put w5 w3.heap.size (.cells (bl (bs.take (i+1)++zG (32 - (i+1)) 0)) 23 (0,0))):=by
       rw[qJm sz5 k5 rfl (by rw[qXa];simp;omega),set_u8,hset]
      simp -implicitDefEqProofs only[go_sem,jR,d4,y4,and_self,iTn,Nat.mul_one,rb5,q5,c2];exact⟨32 - (i+1),by omega,i+1,rfl,by omega,rfl,qQf k5,f5.put (b:=w3.heap.size) _ fun _=>rfl⟩
     ·have d4:=dFo ((i:Int)<32)
      obtain rfl:i=32:=by omega
      rw[List.take_of_length_le (by omega),Nat.sub_self,List.replicate_zero,List.append_nil]at k5;have r5:=rd_d agg23 sz23 k5 hbsl;have bl5:=bldGv (g:=g) hbsl;simp -implicitDefEqProofs only[go_sem,jR,d4,r5,bl5];obtain⟨gr1,gr2⟩:=gvRow_ok 0 (q:=(g,bs)) hbsl;refine qQo (v:=.slice (some ⟨w5.heap.size,0,.none⟩) 1 1) (w':=w5.alloc (.cells (gvRow 0 (g,bs)).toArray 267)) (fill_oneN (by decide) (by decide) (by simp) (by simp) (by simpa using gr1) _) ?_;have f25:Fr (fun b=>b=wb) w2 w5:=(f3.trans' f4 fun _ _ h=>h.elim).trans' f5 fun b hb e=>by have:=f3.size;omega
      have n5:=n2.fr f25 fun b hb e=>hlw b hb e;obtain⟨v6,w6,hr6,n6,f6,_⟩:=n5.push (P:=prog) app139_139 gr1 gr2 (by decide) (by rw[List.length_map];omega) (by rw[List.length_map];omega) ((f2.trans f25).size);simp -implicitDefEqProofs only[go_sem,jR];refine qQh ⟨v6,w6,hr6,?_⟩;simp -implicitDefEqProofs only[go_sem,jR,c1];have f26:Fr (fun b=>b=wb) w1 w6:=(f2.trans f25).trans' f6 fun b hb h=>by have:=(n5.lt h).1;omega
      have h35:∀ bd q',WiAt w3 wb wd ev tv gv rv q' bd→WiAt w6 wb wd ev tv gv rv q' bd:=fun bd q' h=>by
       have hw3:wb<w3.heap.size:=qQi h;exact f6.at (f5.at (f4.at h id) (by omega)) fun e=>by have:=(n5.lt e).1;have:=f1.size;omega
      have n6:NwR w1 w6 267 34 v6 ((gl++[(g,bs)]).map (gvRow 0)):=by rw[List.map_append];exact n6
      have hal:∀ x ∈ gl++[(g,bs)],x.2.length=32:=fun x hx=>by
       rcases List.mem_append.1 hx with hx | hx
       ·exact hgl x hx
       ·simp only[List.mem_singleton]at hx;subst hx;exact hbsl
      by_cases hsh:raw.length<q+32
      ·rw[if_pos (.inr hsh)]at h3
       have hres:res=none:=by rw[i2 rfl,hno hm (.inl (by rw[lDr];omega))];rfl
       exact⟨256 - (g+1),by omega,g+1,v6,gl++[(g,bs)],q,true,rfl,by omega,rfl,h35 _ _ h3,hq,n6,hal,by rw[lAp,jZ];omega,f26,fun _=>hres,fun h=>(by cases h)⟩
      ·rw[if_neg (by rintro (h | h);exact absurd h (by decide);exact hsh h)]at h3
       obtain⟨h3,hbe⟩:=h3;refine⟨256 - (g+1),by omega,g+1,v6,gl++[(g,bs)],q+32,false,rfl,by omega,rfl,h35 _ _ h3,by omega,n6,hal,by rw[lAp,jZ];omega,f26,fun h=>(by cases h),fun _=>?_⟩;rw[i2 rfl,hon hm (by rw[lDr];omega),← hbe,List.drop_drop,Option.map_map]
       congr 1
       funext x
       simp
 ·have d1:=dFo ((g:Int)<256)
  obtain rfl:g=256:=by omega
  simp -implicitDefEqProofs only[go_sem,jR,gLa,gLz,gLs,d1,qJg];refine⟨f02,gl,q,bad2,h2,hq,n2.back f1.size,hgl,hgn,fin bad2 i1 fun hb=>?_⟩;rw[i2 hb];simp[Wit.gvP]
end R
namespace R
theorem fork (w0:World)(hk:RdD w0 v ks)(ha:Wit.Asc ks)(h0:0<ks.length)(hl:ks.length≤2 ^ 40) :
  Fn prog 136 #[v] w0 fun r w'=>r=.int .i64 ((yI ks:Nat) - 1:Int)∧No w0 w':=by
 refine go136 (by simp) ?_;obtain⟨b,o,cap,rfl,hcap,hb⟩:=hk.pos h0
 by_cases h1:ks.length<2
 ·have d1:=dTo (((ks.length:Nat):Int)<2)
  rw[Wit.frm_one h1];simp -implicitDefEqProofs only[go_sem,jR,gLa,gLz,Tryz.f136,d1];exact⟨rfl,Fr.refl _ _⟩
 ·have h2:2≤ks.length:=by omega
  have d1:=dFo (((ks.length:Nat):Int)<2);have r0:=fun w (f:No w0 w)=>(hk.fr0 f).get (P:=prog) agg34 sz34 h0;have r1:=fun w (f:No w0 w)=>(hk.fr0 f).get (P:=prog) agg34 sz34 (show ks.length - 1<ks.length by omega);simp only[Nat.zero_mul,Nat.add_zero]at r0;have k0:=hk.1.getD h0;have k1:=hk.1.getD (show ks.length - 1<ks.length by omega);have hc:=Wit.frm_eq ha h2;rw[head_getD,last_getD]at hc;have c1:IntKind.i64.wrap (((ks.length:Nat):Int) - 1)=((ks.length - 1:Nat):Int):=qXm (b:=1) (by omega) (by omega);have y0:(0:Int)≤0∧(0:Int)<((ks.length:Nat):Int):=by omega
  have y1:(0:Int)≤((ks.length - 1:Nat):Int)∧((ks.length - 1:Nat):Int)<((ks.length:Nat):Int):=by omega
  have hle:=common_le (ks.getD 0 []) (ks.getD (ks.length - 1) []);have hfp:=Wit.frm_pos ha h2;generalize ks.getD 0 []=A at *;generalize ks.getD (ks.length - 1) []=B at *;have q0:=r0 _ (Fr.refl _ w0);have q0d:=r0 _ (Fr.refl _ w0).drew;have q1:=r1 _ (Fr.refl _ w0);have q1d:=r1 _ (Fr.refl _ w0).drew;simp -implicitDefEqProofs only[go_sem,jR,gLa,gLz,Tryz.f136,d1,c1,y0,y1,and_self,iTn,q0d,q1d,Int.toNat_zero,Nat.zero_mul];refine qQa pl182 ((common22 w0.drew k0 k1).mono ?_);rintro _ w1 ⟨rfl,f1⟩;have c2:IntKind.i64.wrap (255 - ((common A B:Nat):Int))=((yI ks:Nat):Int) - 1:=by rw[qZa (by omega) (by omega)];omega
  simp -implicitDefEqProofs only[go_sem,c2];exact (Fr.refl _ _).drew.trans f1
def lfI (w0:World)(v:Value)(f:Int)(ks:List Bs)(n:Nat)(vs:List Value)(w:World):Prop :=
 ∃ (i:Nat),vs=[v,.int .i64 f,.int .i64 ((min i (yE ks):Nat):Int),.int .i64 (i:Nat)]∧i≤ks.length∧n=ks.length - i∧No w0 w
theorem left (w0:World)(hk:RdD w0 v ks)(ha:Wit.Asc ks)(h2:2≤ks.length)(hl:ks.length≤2 ^ 40) :
  Fn prog 137 #[v,.int .i64 ((yI ks:Nat) - 1:Int)] w0 fun r w'=>r=.int .i64 (yE ks:Nat)∧No w0 w':=by
 refine go137 (by simp) ?_;obtain⟨b,o,cap,rfl,hcap,hb⟩:=hk.pos (by omega);simp -implicitDefEqProofs only[go_sem,Tryz.f137];refine loopD [0,1,5,6] (lfI w0 (.slice (some ⟨b,o,.none⟩) ks.length cap) ((yI ks:Nat) - 1:Int) ks) ks.length ⟨0,by rw[Nat.zero_min];rfl,by omega,rfl,Fr.refl _ _⟩ ?_;rintro _ vs w2 g ⟨i,rfl,hi,rfl,f2⟩;have hlt:=Wit.lefts_lt ha h2;have hp:=Wit.frm_pos ha h2;have hfl:=Wit.frm_le ha h2
 by_cases hi2:i<ks.length
 ·have d1:=dTo ((i:Int)<((ks.length:Nat):Int))
  have r2:=(hk.fr0 f2).get agg34 sz34 hi2;have y2:=iBd (i:=i) (n:=ks.length);have k2:=hk.1.getD hi2;have hbit:kbit (ks.getD i []) (256 - yI ks)=decide (yE ks≤i):=by rw[qQl _ hi2];exact Wit.lefts_at ha h2 hi2
  have c0:IntKind.i64.wrap (255 - (((yI ks:Nat):Int) - 1))=((256 - yI ks:Nat):Int):=by rw[qZa (by omega) (by omega)];omega
  have c1:=iSu (i:=i);have c2:IntKind.i64.wrap (((min i (yE ks):Nat):Int)+1)=((min i (yE ks)+1:Nat):Int):=qXb (b:=1);simp -implicitDefEqProofs only[go_sem,jR,gLa,gLz,y2,and_self,iTn,r2,c0];refine qQa pl166 ((bit3 w2 k2 (show 256 - yI ks<256 by omega)).mono ?_);rintro _ w3 ⟨rfl,f3⟩;unfold kb;rw[hbit]
  by_cases h3:yE ks≤i
  ·have e0:((1:Int) == 0)=false:=rfl
   rw[decide_eq_true h3];simp -implicitDefEqProofs only[go_sem,jR,if_true,e0,c1];exact⟨ks.length - (i+1),by omega,i+1,by rw[Nat.min_eq_right h3,Nat.min_eq_right (by omega)],by omega,rfl,f2.trans f3⟩
  ·have e0:((0:Int) == 0)=true:=rfl
   rw[decide_eq_false h3];simp -implicitDefEqProofs only[go_sem,jR,Bool.false_eq_true,if_false,e0,c1,c2];exact⟨ks.length - (i+1),by omega,i+1,by rw[vU (show i≤yE ks by omega),vU (by omega)],by omega,rfl,f2.trans f3⟩
 ·have d1:=dFo ((i:Int)<((ks.length:Nat):Int))
  have hm:min i (yE ks)=yE ks:=by omega
  simp -implicitDefEqProofs only[go_sem,jR,gLa,gLz,d1,hm];exact f2
end R
namespace R
def Mut (wb:Nat)(tv gv:Value):Nat→Prop:=fun b=>b=wb∨qQb tv=some b∨qQb gv=some b
structure WiM (u w:World) (wb:Nat) (wd:Int) (ev rv tv gv:Value) (p:Nat) (bad:Bool) (txs gvs:Rows):Prop where
 cell:WiAt w wb wd ev tv gv rv p bad
 txr:NwR u w 220 8 tv txs
 gvr:NwR u w 267 34 gv gvs
 wbu:u.heap.size≤wb
 no:No u w
 tne:∀ b,qQb tv=some b→b≠wb
 gne:∀ b,qQb gv=some b→b≠wb
 tg:∀ b,qQb tv=some b→qQb gv≠some b
theorem WiM.fr {ev rv tv gv:Value}{txs gvs:Rows}(h:WiM u w wb wd ev rv tv gv p bad txs gvs)(k:Fr F w w')(hf:∀ b,b<w.heap.size→F b→¬ Mut wb tv gv b∧u.heap.size≤b):WiM u w' wb wd ev rv tv gv p bad txs gvs :=
 ⟨k.at h.cell fun e=>(hf wb (qQi h.cell) e).1 (.inl rfl),h.txr.fr k fun b hb e=>(hf b (h.txr.lt hb).2 e).1 (.inr (.inl hb)),h.gvr.fr k fun b hb e=>(hf b (h.gvr.lt hb).2 e).1 (.inr (.inr hb)),h.wbu,
  h.no.trans' k fun b hb e=>by have:=(hf b (by have:=h.no.size;omega) e).2;omega,h.tne,h.gne,h.tg⟩
theorem WiM.fr0 {ev rv tv gv:Value}{txs gvs:Rows}(h:WiM u w wb wd ev rv tv gv p bad txs gvs)(k:No w w'):WiM u w' wb wd ev rv tv gv p bad txs gvs:=h.fr k fun _ _ h=>h.elim
def TxR (u w:World)(M:Nat→Prop)(row:List Value)(x:vL):Prop:=∃ kv nv vv,row=[kv,.int .i64 (x.top:Nat),.int .i64 (x.fr:Nat),nv,.int .i64 (x.left:Nat),.int .i64 (x.right:Nat),.bool x.ans.isSome,vv] ∧
 RdD u kv x.keys∧NwD u w 23 nv x.near∧NwB u w vv (x.ans.getD [])∧(∀ b,qQb nv=some b→¬ M b)∧(∀ b,qQb vv=some b→¬ M b)
theorem TxR.fr {row:List Value}{x:vL}(h:TxR u w M row x)(k:Fr F w w')(hf:∀ b,b<w.heap.size→F b→M b):TxR u w' M row x:=by
 obtain⟨kv,nv,vv,h1,h2,h3,h4,h5,h6⟩:=h;exact⟨kv,nv,vv,h1,h2,h3.fr k fun b hb e=>h5 b hb (hf b (h3.lt hb).2 e),h4.fr k fun b hb e=>h6 b hb (hf b (h4.lt hb).2 e),h5,h6⟩
theorem TxR.mono {row:List Value}{x:vL}(h:TxR u w M row x)(hm:∀ b,b<w.heap.size→M' b→M b):TxR u w M' row x:=by
 obtain⟨kv,nv,vv,h1,h2,h3,h4,h5,h6⟩:=h;exact⟨kv,nv,vv,h1,h2,h3,h4,fun b hb e=>h5 b hb (hm b (h3.lt hb).2 e),fun b hb e=>h6 b hb (hm b (h4.lt hb).2 e)⟩
def TxL (u w:World)(M:Nat→Prop)(rows:Rows)(xs:List vL):Prop:=rows.length=xs.length∧∀ i (h:i<rows.length) (h':i<xs.length),TxR u w M rows[i] xs[i]
theorem TxL.fr {rows:Rows}(h:TxL u w M rows xs)(k:Fr F w w')(hf:∀ b,b<w.heap.size→F b→M b):TxL u w' M rows xs:=⟨h.1,fun i a b=>(h.2 i a b).fr k hf⟩
theorem TxL.mono {rows:Rows}(h:TxL u w M rows xs)(hm:∀ b,b<w.heap.size→M' b→M b):TxL u w M' rows xs:=⟨h.1,fun i a b=>(h.2 i a b).mono hm⟩
theorem TxL.snoc {rows:Rows}(h:TxL u w M rows xs){row:List Value}{x:vL}(k:TxR u w M row x):TxL u w M (rows++[row]) (xs++[x]):=by
 obtain⟨h1,h2⟩:=h;refine⟨by simp[h1],fun i hi hi'=>?_⟩
 by_cases hl:i<rows.length
 ·rw[jF hl,jF (by omega)];exact h2 i hl (by omega)
 ·have hi2:i=rows.length:=by simp at hi;omega
  subst hi2;rw[jU (Nat.le_refl _),jU (by omega)];simpa [h1] using k
def GvR (row:List Value)(q:Nat × Bs):Prop:=∃ tn,row=gvRow tn q∧q.2.length=32
def GvL (rows:Rows)(gs:List (Nat × Bs)):Prop:=rows.length=gs.length∧∀ i (h:i<rows.length) (h':i<gs.length),GvR rows[i] gs[i]
theorem GvL.app {a b:Rows}{gs hs:List (Nat × Bs)}(h:GvL a gs)(k:GvL b hs):GvL (a++b) (gs++hs):=by
 obtain⟨h1,h2⟩:=h;obtain⟨k1,k2⟩:=k;refine⟨by simp[h1,k1],fun i hi hi'=>?_⟩
 by_cases hl:i<a.length
 ·rw[jF hl,jF (by omega)];exact h2 i hl (by omega)
 ·rw[jU (by omega),jU (by omega)]
  have:=k2 (i - a.length) (by rw[lAp]at hi;omega) (by rw[lAp]at hi';omega);have e:i - gs.length=i - a.length:=by omega
  simp only[e];exact this
theorem GvL.own {gl:List (Nat × Bs)}(h:∀ q ∈ gl,q.2.length=32):GvL (gl.map (gvRow 0)) gl:=⟨by simp,fun i hi hi'=>⟨0,by simp,h _ (List.getElem_mem hi')⟩⟩
theorem GvL.set {rows:Rows}(h:GvL rows gs){i:Nat}(hi:i<rows.length)(n:Int):GvL (rows.set i (rows[i].set 0 (.int .i64 n))) gs:=by
 refine⟨by rw[List.length_set];exact h.1,fun j hj hj'=>?_⟩;rw[List.length_set]at hj;rw[List.getElem_set];split
 ·rename_i e
  subst e;obtain⟨tn,e1,e2⟩:=h.2 i hi hj';exact⟨n,by rw[e1];rfl,e2⟩
 ·exact h.2 j hj hj'
abbrev txC (kv:Value)(top fr:Nat)(nv:Value)(l r:Int)(f:Bool)(vv:Value):Array Value:=#[kv,.int .i64 (top:Nat),.int .i64 (fr:Nat),nv,.int .i64 l,.int .i64 r,.bool f,vv]
theorem bldTx (top:Nat)(h:one kv=true):bldO prog 220 [(0,kv),(1,.int .i64 (top:Nat))]=some (.agg (txC kv top 0 (.slice Option.none 0 0) 0 0 false (.slice Option.none 0 0))):=by
 simp only[bldO,zero220,places220,Option.bind_some];rw[qXo (off:=0) rfl h (by decide),qXo (off:=1) rfl rfl (by simp[jS])];rfl
def XtQ (u w0:World)(wb:Nat)(wd:Int)(ev rv:Value)(raw:Bs)(n:Nat)(ks:List Bs)(top:Nat)(tv gv:Value)(p:Nat)(E:Nat→Prop)(xs:List vL)(gs:List (Nat × Bs))(r:Value)(w':World):Prop:=Fr (Mut wb tv gv) w0 w' ∧
 match Wit.parse wd n ks top (raw.drop p) with
 | none=>(∃ z:Int,r=.int .i64 z)∧∃ tv' gv' q,WiAt w' wb wd ev tv' gv' rv q true∧q≤raw.length
 | some x=>∃ tv' gv' q txs' gvs', r=.int .i64 ((xs.length+x.1.size - 1:Nat):Int)∧WiM u w' wb wd ev rv tv' gv' q false txs' gvs'∧q≤raw.length∧raw.drop q=x.2.2∧TxL u w' (fun b=>Mut wb tv' gv' b∨E b) txs' (xs++Wit.flatT wd xs.length x.1)∧GvL gvs' (gs++x.2.1) ∧
   (∀ b,qQb tv'=some b→qQb tv=some b∨w0.heap.size≤b)∧(∀ b,qQb gv'=some b→qQb gv=some b∨w0.heap.size≤b)
theorem allocTx (w:World)(top:Nat)(h:one kv=true):∃ W, wrO prog 220 (w.alloc (.cells #[.slice Option.none 0 0, .int .i64 0, .int .i64 0, .slice Option.none 0 0, .int .i64 0, .int .i64 0, .bool false, .slice Option.none 0 0] 220)) w.heap.size 0 (.agg (txC kv top 0 (.slice Option.none 0 0) 0 0 false (.slice Option.none 0 0)))=some W ∧
  W.heap[w.heap.size]?=some (.cells (txC kv top 0 (.slice .none 0 0) 0 0 false (.slice .none 0 0)) 220 (0,0))∧No w W∧W.heap.size=w.heap.size+1:=by
 have k:=qQc w (.cells #[.slice .none 0 0,.int .i64 0,.int .i64 0,.slice .none 0 0,.int .i64 0,.int .i64 0,.bool false,.slice .none 0 0] 220);refine⟨_,qQw (vs:=txC kv top 0 (.slice .none 0 0) 0 0 false (.slice .none 0 0)) sz220 k rfl (by rw[← Array.all_toList];simp only[List.all_cons,List.all_nil,h];rfl),qQf k,((Fr.refl _ _).alloc _).put (b:=w.heap.size) _ fun h=>absurd h (Nat.lt_irrefl _),?_⟩;simp[put]
theorem textBad (u w0:World){wb top:Nat}{ev tv gv rv kv:Value}{raw:Bs}(h:WiAt w0 wb wd ev tv gv rv p true)(hr:By u rv raw)(no:No u w0)(hu:u.heap.size≤wb)(hrb:0<raw.length→∀ b, qQb rv=some b→b≠wb)(hp:p≤raw.length)(hl:raw.length≤2 ^ 50)
  (hk:RdD w0 kv ks) (ha:Wit.Asc ks) (h0:0<ks.length) (hkl:ks.length≤2 ^ 40) :
  Fn prog 180 #[pt wb 0,kv,.int .i64 (top:Nat)] w0 fun r w'=>Fr (fun b=>b=wb) w0 w'∧(∃ z:Int,r=.int .i64 z)∧WiAt w' wb wd ev tv gv rv p true:=by
 refine go180 (by simp) ?_;obtain⟨ka,kc,rfl,hkc⟩:=hk.slice;have bl:=bldTx (kv:=.slice ka ks.length kc) top rfl;obtain⟨W,q1,t1,f1,s1⟩:=allocTx w0 (kv:=.slice ka ks.length kc) top rfl;have hwb:wb<w0.heap.size:=qQi h;simp -implicitDefEqProofs only[go_sem,jR,Nat.reduceAdd,Tryz.f180,bl,jS,q1];refine qQa pl136 ((fork W (hk.fr0 f1) ha h0 hkl).mono ?_);rintro _ w2 ⟨rfl,f2⟩;have f02:=f1.trans f2;simp -implicitDefEqProofs only[go_sem,jR];refine qQa pl208 ((taken u w2 (f02.at h id) hr (no.trans f02) hu hrb hp hl (k:=1) (by decide)).mono ?_);rintro bv w3 ⟨f3,bs,hbs,hbl,hbw,h3⟩;rw[if_pos (.inl rfl)]at h3;obtain⟨bb,bo,bc,rfl,hbc⟩:=hbs.pos (by omega);have rb:=hbs.get (P:=prog) agg5 (i:=0) (by omega);rw[Nat.add_zero]at rb;have y0:(0:Int)≤0∧(0:Int)<((bs.length:Nat):Int):=by omega
 have c1:IntKind.i64.wrap ((bs.getD 0 0).toNat:Int)=((bs.getD 0 0).toNat:Int):=i64n (by have:=(bs.getD 0 0).isLt;omega);have r3:=h3.row;obtain⟨w4,q4,h4,f4⟩:=h3.setBad;simp -implicitDefEqProofs only[go_sem,jR,gLa,gLz,gLs,y0,rb,c1,r3,qQk,qJe,q4];exact⟨((f02.mono fun _ _ h=>h.elim).trans f3).trans f4,⟨0,rfl⟩,h4⟩
end R
end Go.V
