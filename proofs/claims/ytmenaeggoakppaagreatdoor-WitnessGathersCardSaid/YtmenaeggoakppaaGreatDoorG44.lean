/- Helpers. -/
import Derived.Test.YtmenaeggoakppaaGreatDoorG43
import Derived.Test.YtmenaeggoakppaaGreatDoorG41
import Derived.Test.YtmenaeggoakppaaGreatDoorG42
import Derived.Test.YtmenaeggoakppaaGreatDoorG29
import Derived.Test.YtmenaeggoakppaaGreatDoorG28
import Derived.Test.YtmenaeggoakppaaGreatDoorG26
import Derived.Test.YtmenaeggoakppaaGreatDoorG32
set_option linter.all false
set_option maxRecDepth 100000
set_option maxHeartbeats 8000000
open Array renaming getElem?_eq_getElem→qB
open Int renaming toNat_zero→vL
open List renaming replicate→zG,take_of_length_le→zF,getElem?_append_right→jN,append_cancel_left_eq→rT,getElem?_append_left→zL,drop_eq_getElem_cons→vS,getElem_append_left→yM,getElem?_cons_succ→vE,drop_of_length_le→zC,length_singleton→jK,mem_of_mem_take→zM,mem_of_mem_drop→zN,map→rC
open Nat renaming reduceEqDiff→jF,reduceBEq→jB,le_refl→xP,add_zero→jO,zero_mul→jA,mul_one→jH,lt_irrefl→jD,zero_le→jZ
open Go.Value renaming cells→jM
open Go.V.Wit renaming frm→yL,lefts→yT,nearH→rQ,Sg→rR,poss→kA,gatherP→rE,txt→rI,sgsP→rO,asIs→kN,nearT→sQ,nearL→rX,findS→rP,grow_ok→sX,ansT→vG
namespace Go.V
open Go.Proofs.Tryz Go.V.Tryz
open Go.Proofs Sha
variable {b:Nat} {v:Value} {w w' w0:World}
theorem bldT4 {kv av:Value}{p:Bool}(h:one kv=true)(ha:one av=true):bldO prog 96 [(0,kv),(2,.int .i64 256),(4,.agg #[.bool p,av])]=some (.agg (twC kv 0 256 (.slice none 0 0) (.bool p) av (.pointer none) (.pointer none))):=by
 simp only[bldO,zero96,places96,Option.bind_some];rw[qXj (off:=0) rfl h (by decide),qXj (off:=2) rfl rfl (by simp[jM]),qZd (off:=4) (n:=2) rfl rfl (by simp[jM])];rfl
def gvK (w1:World)(wd:Int)(tsv:Value)(rb kb:Nat)(lv ev mv:Value)(i:Nat)(kv:Value)(n:Nat)(x:Except Int rR)(x0 x3 x5 x10 x12 x13 x14 x15 x16 x17 x40 x41 x42:Value)(w:World):Prop :=
 ∃ ab p v e,x0=.int .i64 wd∧x3=tsv∧x5=pt rb 0∧x10=lv∧x12=mv∧x13=ev∧x14=.int .i64 (i:Nat)∧x15=pt kb 0∧x16=pt ab 0∧x17=.int .i64 e∧x40=kv∧x41=.int .i64 (n:Nat)∧x42=.int .i64 (i:Nat) ∧
  w.heap[ab]?=some (.cells #[.bool p,v] 69 (0,0))∧SvE w x p v e∧No w1 w
def goI (w2:World)(wd:Int)(root:Bs)(tsv:Value)(rb:Nat)(lv ev:Value)(mb:Nat)(kv:Value)(ks raws:List Bs)(n:Nat)(vs:List Value)(w:World):Prop :=
 ∃ (i:Nat) (lp:List (Bs × Value)) (ls:List (Bs × rR)),vs=[.int .i64 wd,tsv,pt rb 0,lv,.map (some mb),ev,kv,.int .i64 (ks.length:Nat),.int .i64 (i:Nat)]∧i≤ks.length∧n=ks.length - i ∧
  MpA w mb lp∧SgM w lp ls∧ls.map (·.1)=ks.take i∧rO wd root (ks.drop i) (raws.drop i) ls=rO wd root ks raws []∧Fr (fun b=>b=mb) w2 w
def giI (wS wI:World)(wd:Int)(a:Option Bs)(bits:Bs)(sums:List Bs)(av:Value)(tsv:Value)(rb pb tb kb:Nat)(lv ev:Value)(mb:Nat)(kv ckv:Value)(m i:Nat)(pv:Value)(n:Nat)(vs:List Value)(w:World):Prop :=
 ∃ (h:Nat) (nv sv:Value),vs=[.int .i64 wd,tsv,pt rb 0,lv,.map (some mb),ev,pt kb 0,pt pb 0,pt tb 0,kv,.int .i64 (m:Nat),.int .i64 (i:Nat),.int .i64 (h:Nat)]∧h≤256∧n=256 - h ∧
  w.heap[pb]?=some (.cells (prL a.isSome pv bits sv).toArray 122 (0,0))∧one sv=true∧RdD wI sv (sums.drop (kA bits h 0).length)∧(∀ b,qQb sv=some b→b<pb) ∧
  w.heap[tb]?=some (.cells (twC ckv 0 256 nv (.bool a.isSome) av (.pointer none) (.pointer none)) 96 (0,0))∧NwD wS w 23 nv ((rX wd bits sums).take h)∧(∀ b,qQb nv=some b→tb<b)∧Fr (fun b=>b=pb∨b=tb) wI w∧No wS w
theorem gather (w0:World)(ht:Tabs w0)(wd:Int){root:Bs}(hroot:root.length=32){kv tsv:Value}{ks raws:List Bs}{A:Nat→Prop}(hk:RdD w0 kv ks)(hts:TsA w0 tsv raws A)(hrl:∀ r ∈ raws, r.length≤2 ^ 50) :
  Fn prog 34 #[.int .i64 wd,dg root,kv,tsv] w0 (BsQ w0 (rE wd root ks raws)):=by
 refine go34 (by simp) ?_;obtain⟨W,hW,f1,k1,s1⟩:=qQs w0 (bl root) 23;obtain⟨ra,rc,rfl⟩:=hts.slice;simp -implicitDefEqProofs only[go_sem,jF,Nat.reduceAdd,Tryz.f34,jM,hW];refine qQa pl46 ((sorted W wd (hk.fr0 f1)).mono ?_);rintro r w2 ⟨f2,h2⟩;have f02:=f1.trans f2;unfold BsQ
 cases hs:Wit.sortW wd ks with
 | error e =>
  rw[hs]at h2;subst h2;have he:=sortW_err hs;have hG:rE wd root ks raws=.error e:=by unfold rE;rw[hs]
  rw[hG];simp -implicitDefEqProofs only[go_sem,jF,gLa,gLz,gLs,he];exact⟨f02,trivial⟩
 | ok l =>
 rw[hs]at h2;obtain⟨lv,rfl,n2⟩:=h2;obtain⟨hse,_,_⟩:=Wit.sortW_ok hs;obtain⟨asc,l32,hlen,hl64,hperm⟩:=Wit.sortE_ok hk.1 hse;obtain⟨ka,kc,rfl,hkc⟩:=hk.slice
 by_cases hn:ks.length≠raws.length
 ·have d1:(((ks.length:Nat):Int) != ((raws.length:Nat):Int))=true:=by rw[bne_iff_ne];omega
  have hG:rE wd root ks raws=.error 1:=by unfold rE;rw[hs];exact if_pos hn
  rw[hG];simp -implicitDefEqProofs only[go_sem,jF,gLa,gLz,gLs,bNe,d1];exact⟨f02,trivial⟩
 have hG:rE wd root ks raws=match rO wd root ks raws [] with
  | .error e=>.error e
  | .ok s=>if l=[] then .ok [] else if Wit.dig wd kN (Wit.grow (rP s) l.length l 256)=root then .ok (rI wd (Wit.grow (rP s) l.length l 256)) else .error 131:=by
  unfold rE;rw[hs];exact if_neg hn
 rw[hG];clear hG;have hn:ks.length=raws.length:=by omega
 have d1:(((ks.length:Nat):Int) != ((raws.length:Nat):Int))=false:=by rw[bne_eq_false_iff_eq];omega
 have f3:No w2 (w2.alloc (.map #[] 0)):=(Fr.refl _ _).alloc _;have m3:(w2.alloc (.map #[] 0)).heap[w2.heap.size]?=some (.map #[] 0):=qQc _ _
 obtain⟨W3,hW3⟩:∃ W3,w2.alloc (.map #[] 0)=W3:=⟨_,rfl⟩
 rw[hW3]at f3 m3;have f03:=f02.trans f3;simp -implicitDefEqProofs only[go_sem,jF,gLa,gLz,gLs,bNe,d1,hW3];refine qQa pl64 ((empties W3 (ht.no f03) wd).mono ?_);rintro ev w4 ⟨ne,f4⟩;have f04:=f03.trans f4;have m4:=f4.at m3 id;have hmb:w2.heap.size<w4.heap.size:=qQh m4;generalize hmbe:w2.heap.size=mb at *;have hw0:w0.heap.size<mb:=by have:=f2.size;omega
 have rr:∀ w w',Fr (fun b=>b=mb) w4 w→No w w'→rdO prog 23 w' w0.heap.size 0=some (dg root):=fun w w' f f'=>rd_d agg23 sz23 (f'.at (f.at (((f2.trans f3).trans f4).at k1 id) (by omega)) id) hroot;have hk64:ks.length≤64:=by omega
 simp -implicitDefEqProofs only[go_sem,jF,gLa,gLz];refine loopD [0,3,5,10,12,13,40,41,42] (goI w4 wd root (.slice ra raws.length rc) w0.heap.size lv ev mb (.slice ka ks.length kc) ks raws) ks.length ⟨0,[],[],rfl,by omega,rfl,MpA.new m4,trivial,rfl,rfl,Fr.refl _ _⟩ ?_;rintro _ vs w g ⟨i,lp,ls,rfl,hi,rfl,hM,hS,hkeys,hsg,fw⟩;have f0w:No w0 w:=f04.trans' fw fun b hb h=>by omega
 by_cases hlt:i<ks.length
 ·have d2:=dTo ((i:Int)<((ks.length:Nat):Int))
  have y1:=iBd (i:=i) (n:=ks.length);have y2:=iBd (i:=i) (n:=raws.length);obtain⟨kb0,ko,kc',e1,_⟩:=(hk.fr0 f0w).pos (show 0<ks.length by omega);cases e1;have rk:=(hk.fr0 f0w).get (P:=prog) agg34 sz34 hlt;obtain⟨tb0,to,tc,xv,e2,hx,_,hxr⟩:=hts.at (show i<raws.length by omega);cases e2;have hdk:ks.drop i=ks.getD i []::ks.drop (i+1):=by rw[vS hlt,qQi _ hlt]
  have hdr:raws.drop i=raws.getD i []::raws.drop (i+1):=by rw[vS (by omega),qQi _ (by omega)]
  have htk:ks.take (i+1)=ks.take i++[ks.getD i []]:=by rw[tSg hlt,qQi _ hlt]
  have hk32:(ks.getD i []).length=32:=hk.1.getD hlt;have hrl':(raws.getD i []).length≤2 ^ 50:=hrl _ (by rw[qQi _ (by omega)];exact List.getElem_mem _)
  have hnin:ks.getD i [] ∉ ks.take i:=fun hmem=>by
   have hnd:ks.Nodup:=hperm.nodup_iff.1 (Wit.asc_nodup asc);rw[← List.take_append_drop i ks,List.nodup_append]at hnd;exact hnd.2.2 _ hmem _ (by rw[hdk];exact List.mem_cons_self ..) rfl
  rw[hdk,hdr,rO]at hsg;generalize ks.getD i []=k at *;generalize raws.getD i []=raw at *;obtain⟨W5,q5,k5,f5,s5⟩:=R.allocD w sz34 hk32;have f05:=f0w.trans f5;have f5d:No W5 W5.drew:=(Fr.refl _ _).drew;have rrd:=rr w W5.drew fw (f5.trans f5d);have rkd:∀ w',No W5 w'→rdO prog 34 w' w.heap.size 0=some (dg k):=fun w' f=>rd_d agg34 sz34 (f.at k5 id) hk32;have rkd1:=rkd W5.drew f5d;have rxd:=hxr W5.drew (f05.trans f5d);simp -implicitDefEqProofs only[go_sem,jF,y1,and_self,decide_true,if_true,iTn,rk,jM,qQj,q5];refine qJo (fun j=>j == 7 || j == 11) (.one 0 (.one 1 (.one 2 (.one 3 (.one 4 (.one 5 (.one 6 (.two 7 (.row [8,9,10,11,12,13]) 11 (.row [7,8,9,10,12,13]))))))))) rfl (by kernel_rfl) (by kernel_rfl) ?_;refine qXm (K:=fun ev' w'=>gvK W5 wd (.slice (some ⟨tb0,to,.none⟩) raws.length rc) w0.heap.size w.heap.size lv ev (.map (some mb)) i (.slice (some ⟨kb0,ko,.none⟩) ks.length kc) ks.length (Wit.sgP wd root k raw) (ev' 0) (ev' 3) (ev' 5) (ev' 10) (ev' 12) (ev' 13) (ev' 14) (ev' 15) (ev' 16) (ev' 17) (ev' 40) (ev' 41) (ev' 42) w') ?rest _ ?main
  case main =>
   simp only[OT.row];simp -implicitDefEqProofs only[go_sem,jF,jB,gLa,gLz,gLs,rrd,rkd1,y2,and_self,if_true,iTn,jH,rxd];refine⟨?_,?_⟩
   ·refine qQn pl65 ((C.verify W5.drew (ht.no (f05.trans f5d)) wd hroot hk32 (hx.fr0 (f05.trans f5d)) hrl').mono ?_)
    intro r w6 h6;obtain⟨f6,p,v,e,rfl,hE,_⟩:=h6.e;refine⟨fun _=>Fr.ext f6,?_⟩;obtain⟨W7,hW7,f7,k7,s7⟩:=qQs w6 #[.bool false,.slice .none 0 0] 69;obtain⟨q7,_⟩:=ansW k7 (p:=p) hE.1;have k8:=qQf (o:=.cells #[.bool p,v] 69 (0,0)) k7;simp -implicitDefEqProofs only[go_sem,jF,jB,gLa,gLz,gLs,jM,hW7,q7];have f8:No w6 (put W7 w6.heap.size (.cells #[.bool p,v] 69 (0,0))):=f7.put (b:=w6.heap.size) _ fun h=>absurd h (jD _);exact⟨fun _=>hW7 ▸ Ext.alloc _ _,_,p,v,e,rfl,rfl,rfl,rfl,rfl,rfl,rfl,rfl,rfl,rfl,rfl,rfl,rfl,k8,hE.fr0 f8,(f5d.trans f6).trans f8⟩
   ·have f57:No W5 (W5.alloc (.cells #[.bool false,.slice .none 0 0] 69)).drew:=((Fr.refl _ _).alloc _).drew
    have k7:(W5.alloc (.cells #[.bool false,.slice .none 0 0] 69)).drew.heap[W5.heap.size]?=_:=qQc W5 (.cells #[.bool false,.slice .none 0 0] 69);refine⟨fun _=>Ext.alloc _ _,?_⟩;generalize (W5.alloc (.cells #[.bool false,.slice .none 0 0] 69)).drew=W7 at *;refine qQn pl65 ((C.verify W7 (ht.no (f05.trans f57)) wd hroot hk32 (hx.fr0 (f05.trans f57)) hrl').mono ?_);intro r w6 h6;obtain⟨f6,p,v,e,rfl,hE,_⟩:=h6.e;refine⟨fun _=>Fr.ext f6,?_⟩;have k7':=f6.at k7 id;obtain⟨q7,_⟩:=ansW k7' (p:=p) hE.1;have k8:=qQf (o:=.cells #[.bool p,v] 69 (0,0)) k7';simp -implicitDefEqProofs only[go_sem,jF,jB,gLa,gLz,gLs,q7];have f8:No W5 (put w6 W5.heap.size (.cells #[.bool p,v] 69 (0,0))):=(f57.trans f6).put (b:=W5.heap.size) _ fun h=>absurd h (jD _);have f68:Fr (fun b=>b=W5.heap.size) w6 (put w6 W5.heap.size (.cells #[.bool p,v] 69 (0,0))):=(Fr.refl _ _).put (b:=W5.heap.size) _ fun _=>rfl;refine⟨_,p,v,e,rfl,rfl,rfl,rfl,rfl,rfl,rfl,rfl,rfl,rfl,rfl,rfl,rfl,k8,hE.frA f68 fun h=>?_,f8⟩;subst h
    exact⟨_,_,_,k7',fun i x=>by
     match i with
     | 0=>simp[u8]
     | 1=>simp[u8]
     | i+2=>simp⟩
  case rest =>
   rintro ev' w6 ⟨ab,p,v,e,e0,e3,e5,e10,e12,e13,e14,e15,e16,e17,e40,e41,e42,k6,hE,f6⟩;have f06:=f05.trans f6;obtain⟨ho,hE⟩:=hE
   cases hp:Wit.sgP wd root k raw with
   | error e' =>
    rw[hp]at hE hsg;obtain rfl:e=e':=hE;have hsg:Except.error e=rO wd root ks raws []:=hsg;rw[← hsg];have he:(e != 0)=true:=by rw[bne_iff_ne];exact Wit.sgP_err hp
    simp -implicitDefEqProofs only[go_sem,jF,e17,he];exact⟨f06,trivial⟩
   | ok s =>
   rw[hp]at hE hsg;obtain⟨rfl,rfl,hv⟩:=hE;have hp':=hp;unfold Wit.sgP at hp'
   cases hh:C.heldP wd root k raw with
   | error e=>rw[hh]at hp';cases hp'
   | ok y =>
   obtain⟨a,bits,sums⟩:=y;rw[hh]at hp';have hp':Except.ok (a,rX wd bits sums)=Except.ok (ε:=Int) s:=hp';cases hp';have hdc:=(Wit.held_form hh).2;obtain⟨hbl,hsl,_,_⟩:=Wit.decP_ok hdc;have rx6:=hxr w6 f06;simp -implicitDefEqProofs only[go_sem,jF,e17,e3,e14,bNe,y2,and_self,if_true,iTn,jH,rx6];refine qQa pl66 ((C.decode w6 (hx.fr0 f06) hrl').mono ?_);rintro r w7 ⟨f7,h7⟩;rw[hdc]at h7;obtain⟨pv,sv,rfl,hpv,hsv,hpo,hso,hpb,hsb⟩:=h7;have f07:=f06.trans f7;obtain⟨W8,hW8,f8,k8,s8⟩:=qQs w7 pZ 122;have q8:wrO prog 122 W8 w7.heap.size 0 (.agg (prL a.isSome pv bits sv).toArray)=some (put W8 w7.heap.size (.cells (prL a.isSome pv bits sv).toArray 122 (0,0))):=qQw (by simp[qXv hbl,sz122]) k8 (by simp[pZ,qXv hbl]) (by rw[← Array.all_toList];exact qJz hpo hso);have k9:=qQf (o:=.cells (prL a.isSome pv bits sv).toArray 122 (0,0)) k8;have f9:No w7 (put W8 w7.heap.size (.cells (prL a.isSome pv bits sv).toArray 122 (0,0))):=f8.put (b:=w7.heap.size) _ fun h=>absurd h (jD _)
   obtain⟨w9,hw9⟩:∃ w9,w9=put W8 w7.heap.size (.cells (prL a.isSome pv bits sv).toArray 122 (0,0)):=⟨_,rfl⟩
   rw[← hw9]at q8 k9 f9;have f69:=f7.trans f9;have f59:=f6.trans f69;have r9k:=rkd w9 f59;have z0:jM (.agg pZ)=pZ:=rfl;simp -implicitDefEqProofs only[go_sem,jF,gLa,gLz,gLs,hW8,jM,q8,e15,bNe,r9k];refine qQl (v:=.slice (some ⟨w9.heap.size,0,.none⟩) 1 1) (w':=w9.alloc (.cells (bl k) 34)) (qXb (y:=rC u8 (zG 32 0)) (by simp) (c:=bl (zG 32 0)) (by simp) (d:=k) hk32 _) ?_;have f10:No w9 (w9.alloc (.cells (bl k) 34)):=(Fr.refl _ _).alloc _;have s10:(w9.alloc (.cells (bl k) 34)).heap.size=w9.heap.size+1:=qQd _ _
   obtain⟨w10,hw10⟩:∃ w10,w10=w9.alloc (.cells (bl k) 34):=⟨_,rfl⟩
   rw[← hw10]at f10 s10;rw[← hw10];have f610:=f69.trans f10;have rA:rdO prog 69 w10 ab 0=some (.agg #[.bool a.isSome,v]):=qXz agg69 sz69 (f610.at k6 id)
   obtain⟨ckv,hckv⟩:∃ c,c=Value.slice (some ⟨w9.heap.size,0,.none⟩) 1 1:=⟨_,rfl⟩
   rw[← hckv];have bl11:=bldT4 (kv:=ckv) (p:=a.isSome) (by rw[hckv];rfl) ho;obtain⟨W11,hW11,f11,k11,s11⟩:=qQs w10 (twC ckv 0 256 (.slice none 0 0) (.bool a.isSome) v (.pointer none) (.pointer none)) 96;simp -implicitDefEqProofs only[go_sem,jF,e16,rA,bl11,jM,hW11];have hpb:w7.heap.size<w9.heap.size:=qQh k9;refine loopD [0,3,5,10,12,13,15,18,19,40,41,42,77] (giI w W11 wd a bits sums v (.slice (some ⟨tb0,to,.none⟩) raws.length rc) w0.heap.size w7.heap.size w10.heap.size w.heap.size lv ev mb (.slice (some ⟨kb0,ko,.none⟩) ks.length kc) ckv ks.length i pv) 256 ⟨0,_,sv,?_,by omega,rfl,(f10.trans f11).at k9 id,hso,?_,?_,k11,NwD.nil _ _ _,(fun b h=>by cases h),Fr.refl _ _,?_⟩ ?_
   ·simp -implicitDefEqProofs only[go_sem,jF,List.map_cons,List.map_nil,e0,e3,e5,e10,e12,e13,e15,e40,e41,e42]
    rfl
   ·exact hsv.fr0 ((f9.trans f10).trans f11)
   ·exact fun b hb=>(hsb b hb).2
   ·exact (((f5.trans f6).trans f69).trans f10).trans f11
   rintro _ vs w12 g ⟨h,nv,sv',rfl,hh,rfl,kp,hso',hsv',hsb',kt,hN,hNb,fi,fwi⟩;have f4c:Fr (fun b=>b=mb) w4 w12:=fw.trans (fwi.mono fun _ _ h=>h.elim)
   by_cases hh2:h<256
   ·have d3:=dTo ((h:Int)<256)
    have y3:(0:Int)≤(h:Int)∧(h:Int)<(((empts wd 257).length:Nat):Int):=by rw[qQm wd 257];omega
    have c1:=iSu (i:=h);have hemp:(empts wd 257).getD h []=emptD wd h:=by rw[gDq,qXw wd 257 (by omega)];rfl
    obtain⟨eb,eo,ec,rfl,_⟩:=ne.rd.pos (by rw[qQm wd 257];omega);have rdn:=((ne.fr f4c fun b hb h=>by have:=(ne.lt hb).1;have:mb<W3.heap.size:=qQh m3;omega).rd).get (P:=prog) agg23 sz23 (i:=h) (by rw[qQm wd 257];omega);rw[hemp]at rdn;obtain⟨W13,q13,k13,f13,s13⟩:=R.allocD w12 sz23 (qQp wd h);have n8:((8:Int)=0)=False:=by simp
    have a1:IntKind.i64.wrap ((h:Int).tdiv 8)=((h / 8:Nat):Int):=by rw[show (h:Int).tdiv 8=((h / 8:Nat):Int) from rfl];exact i64n
    have a2:(h:Int).tmod 8=((h % 8:Nat):Int):=rfl;have a3:IntKind.i64.wrap ((h % 8:Nat):Int)=((h % 8:Nat):Int):=i64n;have n2:¬ (((h % 8:Nat):Int)<0):=by omega
    have y4:(0:Int)≤((h / 8:Nat):Int)∧((h / 8:Nat):Int)<((32:Nat):Int):=by omega
    have kp13:=f13.at kp id
    have rbit:rdO prog 5 W13 w7.heap.size (2+h / 8)=some (.int .u8 ((bits.getD (h / 8) 0).toNat:Int)):=by
     refine rd1 agg5 kp13 ?_;rw[List.getElem?_toArray,prL,show 2+h / 8=(h / 8+1)+1 by omega,vE,vE,zL (by simp;omega),List.getElem?_map,List.getElem?_eq_getElem (by omega),qQi _ (by omega)];rfl
    have hm:=mbit_and1 bits h;have htb:w10.heap.size<W11.heap.size:=qQh k11;have hwt:w.heap.size≤w10.heap.size:=(((f5.trans f6).trans f69).trans f10).size;have hpt:w7.heap.size<w10.heap.size:=by omega
    have h1112:=fi.size
    have D32:(rQ wd bits sums h).length=32:=by
     rw[← nearL_at wd bits sums hh2];exact (Wit.sgP_ok hk32 hp).1.2.2.2.1.getD (by rw[qXq];exact hh2)
    have kt13:=f13.at kt id
    have push:∀ (w14:World) (sv2:Value), Fr (fun b=>b=w7.heap.size∨b=w12.heap.size) W13 w14→w14.heap[w12.heap.size]?=some (.cells (bl (rQ wd bits sums h)) 23 (0, 0))→w14.heap[w7.heap.size]?=some (.cells (prL a.isSome pv bits sv2).toArray 122 (0, 0))→one sv2=true→RdD W11 sv2 (sums.drop (kA bits (h+1) 0).length)→(∀ b, qQb sv2=some b→b<w7.heap.size) →
      rdO prog 94 w14.drew w10.heap.size 3=some nv∧rdO prog 23 w14.drew w12.heap.size 0=some (dg (rQ wd bits sums h))∧∃ v15 w15 w16,(Builtin.append_ #[94,94] 0 #[nv,.slice (some ⟨w14.heap.size,0,.none⟩) 1 1]).run prog (w14.drew.alloc (.cells (bl (rQ wd bits sums h)) 23))=.ok v15 w15∧wrO prog 94 w15 w10.heap.size 3 v15=some w16 ∧
      giI w W11 wd a bits sums v (.slice (some ⟨tb0,to,.none⟩) raws.length rc) w0.heap.size w7.heap.size w10.heap.size w.heap.size lv (.slice (some ⟨eb,eo,.none⟩) (empts wd 257).length ec) mb (.slice (some ⟨kb0,ko,.none⟩) ks.length kc) ckv ks.length i pv (256 - (h+1)) [.int .i64 wd,.slice (some ⟨tb0,to,.none⟩) raws.length rc,pt w0.heap.size 0,lv,.map (some mb),.slice (some ⟨eb,eo,.none⟩) (empts wd 257).length ec,pt w.heap.size 0,pt w7.heap.size 0,pt w10.heap.size 0,.slice (some ⟨kb0,ko,.none⟩) ks.length kc,.int .i64 (ks.length:Nat),.int .i64 (i:Nat),.int .i64 ((h+1:Nat):Int)] w16:=fun w14 sv2 f14 kd kp14 hso2 hsv2 hsb2=>by
     have kt14:=f14.at kt13 (by omega);have fd:No w14 w14.drew:=(Fr.refl _ _).drew;have hN14:=((hN.fr0 f13).fr f14 fun b hb h=>by have:=hNb b hb;have:=(hN.lt hb).2;omega).fr0 fd;have fw14:No w w14.drew:=((fwi.trans f13).trans' f14 fun b hb h=>by have:=((f5.trans f6).trans f7).size;omega).trans fd;have hs14:W13.heap.size≤w14.heap.size:=f14.size;obtain⟨v15,w15,hr,b15,g15,g15',m15⟩:=hN14.push app94_94 D32 (by rw[lTk,qXq];omega) fw14;rw[← near_snoc hh2]at b15;have o15:one v15=true:=by obtain⟨a,c,rfl,_⟩:=b15.rd.slice;rfl
     have kt15:=g15'.at (show w14.drew.heap[w10.heap.size]?=_ from kt14) fun h=>by have:=hNb _ h;omega
     have kp15:=g15'.at (show w14.drew.heap[w7.heap.size]?=_ from kp14) fun h=>by have:=hNb _ h;omega
     have k16:=qQf (o:=.cells (twC ckv 0 256 v15 (.bool a.isSome) v (.pointer none) (.pointer none)) 96 (0,0)) kt15
     have hb15:∀ b,qQb v15=some b→w10.heap.size<b:=fun b hb=>by
      rcases m15 b hb with h | h
      ·exact hNb b h
      ·have:w14.drew.heap.size=w14.heap.size:=rfl;omega
     have f1116:Fr (fun b=>b=w7.heap.size∨b=w10.heap.size) W11 w15:=(((fi.trans (f13.mono fun _ _ h=>h.elim)).trans' f14 fun b hb h=>by omega).trans (fd.mono fun _ _ h=>h.elim)).trans' g15' fun b hb h=>by have:=hNb b h;omega
     refine⟨rd1 agg94 (show w14.drew.heap[w10.heap.size]?=_ from kt14) rfl,rd_d agg23 sz23 (show w14.drew.heap[w12.heap.size]?=_ from kd) D32,v15,w15,_,hr,qZp sz94 kt15 o15 (by simp),h+1,v15,sv2,rfl,by omega,rfl,qQr (b:=w10.heap.size) kp15 (by omega),hso2,hsv2,hsb2,k16,b15.fr ((Fr.refl (fun b=>b=w10.heap.size) w15).put (b:=w10.heap.size) _ fun _=>rfl) (fun b hb h=>by have:=hb15 b hb;omega),hb15,f1116.put (b:=w10.heap.size) _ fun _=>.inr rfl,g15.put (b:=w10.heap.size) _ fun h=>by omega⟩
    cases hb:Wit.mbit bits h with
    | false =>
     rw[hb]at hm;have hD:rQ wd bits sums h=emptD wd h:=by unfold rQ;rw[if_pos hb]
     obtain⟨rt,rd',v15,w15,w16,hr,q16,hI⟩:=push W13 sv' (Fr.refl _ _) (by rw[hD];exact k13) kp13 hso' (by rw[Wit.gs_skip hb];exact hsv') hsb';simp -implicitDefEqProofs only[go_sem,jF,d3,y3,and_self,if_true,iTn,rdn,jM,qQj,q13,n8,a1,a2,n2,y4,jH,rbit,hm];refine qXh (fun j=>j == 6) [0,1,2,3,4,5,6,7,8,9,10] rfl (by kernel_rfl) (by kernel_rfl) ?_;simp -implicitDefEqProofs only[go_sem,jF,jB,gLa,gLz,gLs,rt,rd'];refine qKi (v:=.slice (some ⟨W13.heap.size,0,.none⟩) 1 1) (w':=W13.drew.alloc (.cells (bl (rQ wd bits sums h)) 23)) (qXb (y:=rC u8 (zG 32 0)) (by simp) (c:=bl (zG 32 0)) (by simp) (d:=rQ wd bits sums h) D32 _) (fun _=>Ext.alloc _ _) ?_;simp -implicitDefEqProofs only[go_sem,jF,gLa,gLz,gLs];refine qJj ⟨v15,w15,hr,(fun h=>by cases h),?_⟩;simp -implicitDefEqProofs only[go_sem,jF,jB,gLa,gLz,gLs,q16,c1];exact⟨256 - (h+1),by omega,hI⟩
    | true =>
     rw[hb]at hm;obtain⟨hpl,hps,_⟩:=Wit.gs_at hsl hh2 hb;have hD:rQ wd bits sums h=sums.getD (kA bits h 0).length []:=by unfold rQ;rw[if_neg (by rw[hb];decide)]
     have hdl:0<(sums.drop (kA bits h 0).length).length:=by rw[lDr];omega
     obtain⟨sb,so,sc,rfl,_,_⟩:=hsv'.pos hdl;have hsc:(sums.drop (kA bits h 0).length).length≤sc:=by obtain⟨_,a,c,e,hc,_⟩:=hsv'.2;cases e;exact hc
     have hsv13:=(hsv'.fr fi fun b hb _ hF=>by have:=hsb' b hb;omega).fr0 f13;have rs0:=hsv13.get (P:=prog) agg23 sz23 (i:=0) hdl;have hg0:(sums.drop (kA bits h 0).length).getD 0 []=rQ wd bits sums h:=by rw[hD,gDq,List.getElem?_drop,jO,← gDq]
     rw[hg0,jA,jO]at rs0;have y5:(0:Int)≤0∧(0:Int)<(((sums.drop (kA bits h 0).length).length:Nat):Int):=by omega
     have rsv:rdO prog 94 W13 w7.heap.size 34=some _:=rd_one (A:=.bool a.isSome::pv::bits.map u8) (C:=[]) agg94 kp13 (by simp[hbl]);have q14:=wr_d sz23 k13 (qQp wd h) D32;have kd14:=qQf (o:=.cells (bl (rQ wd bits sums h)) 23 (0,0)) k13;have kp14:=qQr (b:=w12.heap.size) (o:=.cells (bl (rQ wd bits sums h)) 23 (0,0)) kp13 (by omega);have f14:Fr (fun b=>b=w7.heap.size∨b=w12.heap.size) W13 (put W13 w12.heap.size (.cells (bl (rQ wd bits sums h)) 23 (0,0))):=(Fr.refl _ _).put (b:=w12.heap.size) _ fun _=>.inr rfl
     obtain⟨w14,hw14⟩:∃ w14,w14=put W13 w12.heap.size (.cells (bl (rQ wd bits sums h)) 23 (0,0)):=⟨_,rfl⟩
     rw[← hw14]at q14 kd14 kp14 f14;have rsv14:rdO prog 94 w14 w7.heap.size 34=some _:=rd_one (A:=.bool a.isSome::pv::bits.map u8) (C:=[]) agg94 kp14 (by simp[hbl]);have sl:=slc_lo (P:=prog) slc94 arr94 sz23 (a:=some ⟨sb,so,.none⟩) (show 1≤(sums.drop (kA bits h 0).length).length by omega) hsc;have hcut:=RdD.cutV hsv' (show 1≤(sums.drop (kA bits h 0).length).length by omega) (xP _) rfl;rw[zF (by rw[lDr];exact xP _),List.drop_drop]at hcut
     obtain⟨sv2,hsv2⟩:∃ x,x=cutV 32 (some ⟨sb,so,.none⟩) sc 1 (sums.drop (kA bits h 0).length).length:=⟨_,rfl⟩
     have hb2:∀ b,qQb sv2=some b→b<w7.heap.size:=fun b hb=>hsb' b (cutV_blk (by rw[← hsv2];exact hb));have ho2:one sv2=true:=by obtain⟨_,a,c,e,_⟩:=hcut.2;rw[hsv2,e];rfl
     rw[← hsv2]at sl hcut;have q15:wrO prog 94 w14 w7.heap.size 34 sv2=some (put w14 w7.heap.size (.cells (prL a.isSome pv bits sv2).toArray 122 (0,0))):=wr_one (A:=.bool a.isSome::pv::bits.map u8) (C:=[]) sz94 kp14 ho2 (by simp[hbl]);have kd15:=qQr (b:=w7.heap.size) (o:=.cells (prL a.isSome pv bits sv2).toArray 122 (0,0)) kd14 (by omega);have kp15:=qQf (o:=.cells (prL a.isSome pv bits sv2).toArray 122 (0,0)) kp14;have f15:=f14.put (b:=w7.heap.size) (.cells (prL a.isSome pv bits sv2).toArray 122 (0,0)) fun _=>.inl rfl
     obtain⟨w15x,hw15⟩:∃ w15x,w15x=put w14 w7.heap.size (.cells (prL a.isSome pv bits sv2).toArray 122 (0,0)):=⟨_,rfl⟩
     rw[← hw15]at q15 kd15 kp15 f15;obtain⟨rt,rd',v15,w15,w16,hr,q16,hI⟩:=push w15x sv2 f15 kd15 kp15 ho2 (by rw[hps];exact hcut) hb2;rw[show (((1:Nat)):Int)=1 from rfl]at sl;simp -implicitDefEqProofs only[go_sem,jF,d3,y3,and_self,if_true,iTn,vL,jA,rdn,jM,qQj,q13,n8,a1,a2,n2,y4,jH,rbit,hm,rsv,y5,rs0,q14,rsv14,sl,q15];refine qXh (fun j=>j == 6) [0,1,2,3,4,5,6,7,8,9,10] rfl (by kernel_rfl) (by kernel_rfl) ?_;simp -implicitDefEqProofs only[go_sem,jF,jB,gLa,gLz,gLs,rt,rd'];refine qKi (v:=.slice (some ⟨w15x.heap.size,0,.none⟩) 1 1) (w':=w15x.drew.alloc (.cells (bl (rQ wd bits sums h)) 23)) (qXb (y:=rC u8 (zG 32 0)) (by simp) (c:=bl (zG 32 0)) (by simp) (d:=rQ wd bits sums h) D32 _) (fun _=>Ext.alloc _ _) ?_;simp -implicitDefEqProofs only[go_sem,jF,gLa,gLz,gLs];refine qJj ⟨v15,w15,hr,(fun h=>by cases h),?_⟩;simp -implicitDefEqProofs only[go_sem,jF,jB,gLa,gLz,gLs,q16,c1];exact⟨256 - (h+1),by omega,hI⟩
   ·have d3:=dFo ((h:Int)<256)
    obtain rfl:h=256:=by omega
    rw[zF (by rw[qXq];exact xP _)]at hN;have hpt:w7.heap.size<w10.heap.size:=by omega
    have hw57:=(f6.trans f7).size;have f512:No W5 w12:=(((f6.trans f69).trans f10).trans f11).trans' fi fun b hb h=>by omega
    have r12:=rkd w12 f512;have M12:=hM.fr0 fwi;have hnf:findA lp k=none:=findA_none (by rw[hS.keys,hkeys];exact hnin);obtain⟨ob,hob,hfz,hput⟩:=M12.put hk32 hnf (pt w10.heap.size 0);have c2:=iSu (i:=i);simp -implicitDefEqProofs only[go_sem,jF,d3,r12,map118,hob,c2];obtain⟨es,c,hes,_⟩:=id M12;have f13:Fr (fun b=>b=mb) w12 (put w12 mb ob):=(Fr.refl _ _).put (b:=mb) _ (fun _=>rfl) hfz;have hv12:=(hv.fr0 (f610.trans f11)).frn fi fun hn b hb hF=>by have:=hv.blkn hn hb;have:=f7.size;omega
    have S12:SgM w12 (lp++[(k,pt w10.heap.size 0)]) (ls++[(k,(a,rX wd bits sums))]):=SgM.snoc ⟨w10.heap.size,ckv,nv,v,rfl,kt,hN.back (jZ _),hv12,ho⟩ (hS.fr0 fwi);refine⟨ks.length - (i+1),by omega,i+1,lp++[(k,pt w10.heap.size 0)],ls++[(k,(a,rX wd bits sums))],rfl,by omega,rfl,hput _ (qQf hes),S12.fr hes f13,by rw[List.map_append,hkeys,htk];rfl,hsg,(fw.trans (fwi.mono fun _ _ h=>h.elim)).trans f13⟩
 ·have d2:=dFo ((i:Int)<((ks.length:Nat):Int))
  obtain rfl:i=ks.length:=by omega
  rw[zC (xP _),zC (Nat.le_of_eq hn.symm)]at hsg;have hsg:Except.ok ls=rO wd root ks raws []:=hsg;rw[zF (xP _)]at hkeys;have hall:=Wit.sgs_all hk.1 hn hsg.symm hperm;rw[← hsg];clear hsg;obtain⟨la,lc,rfl,_⟩:=n2.rd.slice
  by_cases h0:l=[]
  ·subst h0
   have d3:((((([]:List Bs).length:Nat):Int)) == 0)=true:=rfl;simp -implicitDefEqProofs only[go_sem,jF,gLa,gLz,d2,d3];exact⟨f0w,_,rfl,NwB.nil _ _⟩
  have hl0:0<l.length:=List.length_pos_iff.2 h0;have d3:(((l.length:Nat):Int) == 0)=false:=by rw[bFn];omega
  have f2w:No w2 w:=(f3.trans f4).trans' fw fun b hb h=>by omega
  have n2w:=n2.rd.fr0 f2w
  have hmem:∀ k ∈ l,k ∈ ls.map (·.1)∧(rP ls k).2.length=256:=fun k hk'=>⟨by rw[hkeys];exact hperm.mem_iff.1 hk',(hall k hk').1.2.2.1⟩
  obtain⟨gok,gkeys,_,_⟩:=sX (n:=l.length) (top:=256) asc l32 hl0 (xP _) (by rw[Nat.sub_self];exact Wit.shr_zero l) (xP _) hall;simp -implicitDefEqProofs only[go_sem,jF,gLa,gLz,d2,d3];refine qQa pl67 ((grown w w hS l.length w (top:=256) (xP _) (Fr.refl _ _) (Fr.refl _ _) hM n2w asc hl0 (by omega) (by rw[Nat.sub_self];exact Wit.shr_zero l) (xP _) hmem).mono ?_);rintro _ w5 ⟨f5,tb,rfl,hT⟩;obtain⟨B,hT⟩:=hT.m;have f05:=f0w.trans f5;rw[if_neg h0];generalize Wit.grow (rP ls) l.length l 256=t at *;have r5:=rr w w5 fw f5;have r5d:rdO prog 23 w5.drew w0.heap.size 0=_:=r5;have fd5:No w5 w5.drew:=(Fr.refl _ _).drew;simp -implicitDefEqProofs only[go_sem];refine qXh (fun j=>j == 2) [0,1,3,2,4] rfl (by kernel_rfl) (by kernel_rfl) ?_;simp -implicitDefEqProofs only[go_sem,jF,jB,gLa,gLz,gLs,r5d];refine qQt pl60 ((hashed w w5.drew (ht.no f05.drew) wd (asIsF _) (hT.fr0 fd5) gok (f5.trans fd5)).mono ?_);rintro _ w6 ⟨rfl,f6⟩;refine⟨fun _=>Fr.ext f6,?_⟩;have f56:=fd5.trans f6;have f06:=f05.trans f56;have r6:=rr w w6 fw (f5.trans f56);have eq:=eqDig (Wit.dig_len wd kN t) hroot
  by_cases hd:Wit.dig wd kN t=root
  ·have hb:(Wit.dig wd kN t == root)=true:=by rw[beq_iff_eq];exact hd
   rw[if_pos hd];simp -implicitDefEqProofs only[go_sem,jF,jB,gLa,gLz,gLs,eq,hb];refine qQa pl69 ((laid w w6 (ht.no f06) wd (hT.fr0 f56) gok (by rw[gkeys];omega) (f5.trans f56)).mono ?_);rintro v w7 ⟨nb,f7⟩;simp -implicitDefEqProofs only[go_sem,jF];exact⟨f06.trans f7,v,rfl,nb.back f06.size⟩
  ·have hb:(Wit.dig wd kN t == root)=false:=by rw[bFn];exact hd
   rw[if_neg hd];simp -implicitDefEqProofs only[go_sem,jF,jB,gLa,gLz,gLs,eq,hb];exact⟨f06,trivial⟩
def slL (k:Bs)(f:Bool)(vv nv:Value):List Value:=k.map u8++[.bool f,vv,nv]
abbrev slC (k:Bs)(f:Bool)(vv nv:Value):Array Value:=(slL k f vv nv).toArray
theorem slL_len {k:Bs}(f:Bool)(vv nv:Value)(hk:k.length=32):(slL k f vv nv).length=35:=by simp[slL,hk]
theorem slL_one (k:Bs)(f:Bool){vv nv:Value}(hv:one vv=true)(hn:one nv=true):(slL k f vv nv).all one=true:=by
 have:=qXs k;simp only[slL,List.all_append,List.all_cons,List.all_nil,hv,hn,Bool.and_true];rw[show (k.map u8).all one=true from this];rfl
theorem RdD.blk2 {ts:List Bs}(h:RdD w v ts)(h0:0<ts.length)(hb:qQb v=some b):b<w.heap.size:=by
 obtain⟨b',o,cap,rfl,_,hlt⟩:=h.pos h0;simp only[qQb,oSi]at hb;omega
def SlV (w:World)(row:List Value)(s:Bs × rR)(B:Nat→Prop):Prop:=∃ vv nv,row=slL s.1 s.2.1.isSome vv nv∧one vv=true∧one nv=true∧By w vv (s.2.1.getD [])∧RdD w nv s.2.2∧s.1.length=32∧(s.2.1.getD []≠[]→∀ b,qQb vv=some b→¬ B b)∧(0<s.2.2.length→∀ b,qQb nv=some b→¬ B b)
theorem SlV.fr {F B:Nat→Prop}{row:List Value}{s:Bs × rR}(h:SlV w row s B)(k:Fr F w w')(hF:∀ b,F b→B b):SlV w' row s B:=by
 obtain⟨vv,nv,h1,h2,h3,h4,h5,h6,h7,h8⟩:=h;refine⟨vv,nv,h1,h2,h3,h4.fr' k fun hn b hb h=>h7 hn b hb (hF b h),?_,h6,h7,h8⟩
 by_cases h0:0<s.2.2.length
 ·exact h5.fr k fun b hb _ h=>h8 h0 b hb (hF b h)
 ·obtain⟨a,cap,rfl,hc⟩:=h5.slice
  have:s.2.2=[]:=List.eq_nil_of_length_eq_zero (by omega);rw[this]at h5 ⊢;exact⟨h5.1,by obtain⟨_,hl,a',c',e,hcap,hat⟩:=id h5;exact⟨hl,a',c',e,hcap,fun h=>absurd h (by simp)⟩⟩
theorem SlV.mono {B B':Nat→Prop}{row:List Value}{s:Bs × rR}(h:SlV w row s B)(hB:∀ b,B' b→(∃ q,w.heap[b]?=some q)→B b):SlV w row s B':=by
 obtain⟨vv,nv,h1,h2,h3,h4,h5,h6,h7,h8⟩:=h;refine⟨vv,nv,h1,h2,h3,h4,h5,h6,fun hn b hb h=>h7 hn b hb (hB b h ?_),fun hn b hb h=>h8 hn b hb (hB b h ?_)⟩
 ·have:=h4.blk0 hn hb;exact⟨_,qB this⟩
 ·have:=h5.blk2 hn hb;exact⟨_,qB this⟩
def SlR (w:World)(v:Value)(ss:List (Bs × rR)):Prop:=∃ rows,RdR w 35 v rows∧rows.length=ss.length∧∀ i (h:i<rows.length) (h':i<ss.length),SlV w rows[i] ss[i] fun _=>False
def SlX (w0 w:World)(v:Value)(ss:List (Bs × rR)):Prop:=∃ rows,NwR w0 w 149 35 v rows∧rows.length=ss.length∧∀ i (h:i<rows.length) (h':i<ss.length),SlV w rows[i] ss[i] fun b=>qQb v=some b
theorem SlX.nil (w0 w:World):SlX w0 w (.slice Option.none 0 0) []:=⟨[],NwR.nil _ _ _ _,rfl,fun i h=>absurd h (by simp)⟩
theorem SlX.rd {ss:List (Bs × rR)}(h:SlX w0 w v ss):SlR w v ss:=by
 obtain⟨rows,h1,h2,h3⟩:=h;exact⟨rows,h1.rd,h2,fun i a b=>(h3 i a b).mono fun b h _=>h.elim⟩
theorem SlX.lt {ss:List (Bs × rR)}(h:SlX w0 w v ss)(hb:qQb v=some b):w0.heap.size≤b∧b<w.heap.size:=by
 obtain⟨rows,h1,_⟩:=h;exact h1.lt hb
theorem SlX.fr0 {ss:List (Bs × rR)}(h:SlX w0 w v ss)(f:No w w'):SlX w0 w' v ss:=by
 obtain⟨rows,h1,h2,h3⟩:=h;exact⟨rows,h1.fr0 f,h2,fun i a b=>(h3 i a b).fr f fun _ h=>h.elim⟩
theorem SlR.fr0 {ss:List (Bs × rR)}(h:SlR w v ss)(f:No w w'):SlR w' v ss:=by
 obtain⟨rows,h1,h2,h3⟩:=h;exact⟨rows,h1.fr0 f,h2,fun i a b=>(h3 i a b).fr f fun _ h=>h.elim⟩
theorem SlR.slice {ss:List (Bs × rR)}(h:SlR w v ss):∃ a cap,v=.slice a ss.length cap∧ss.length≤cap:=by
 obtain⟨rows,h1,h2,_⟩:=h;have:=h1.slice;rw[h2]at this;exact this
theorem SlR.cutV {a:Option Addr}{n cap:Nat}{ss:List (Bs × rR)}(h:SlR w (.slice a n cap) ss){l m:Nat}(hl:l≤m)(hm:m≤n)(hn:ss.length=n):SlR w (V.cutV 35 a cap l m) ((ss.drop l).take (m - l)):=by
 obtain⟨rows,h1,h2,h3⟩:=h;refine⟨_,h1.cutV hl hm (by omega),by simp[h2],fun i a b=>?_⟩;simp only[List.getElem_take,List.getElem_drop];rw[lTk,lDr]at a b;exact h3 (l+i) (by omega) (by omega)
theorem SlX.push {ss:List (Bs × rR)}(h:SlX w0 w v ss)(f:No w0 w){s:Bs × rR}{row:List Value}(hs:SlV w row s fun b=>qQb v=some b)(hl:ss.length≤2 ^ 20) :
  ∃ v' w',(Builtin.append_ #[143,143] 0 #[v,.slice (some ⟨w.heap.size,0,.none⟩) 1 1]).run prog (w.alloc (.cells row.toArray 149))=.ok v' w'∧SlX w0 w' v' (ss++[s])∧No w0 w'∧Fr (fun b=>qQb v=some b) w w':=by
 obtain⟨rows,hN,hrows,hch⟩:=h;have hrl:row.length=35:=by obtain⟨_,_,h1,_,_,_,_,h6,_⟩:=hs;rw[h1,slL_len _ _ _ h6]
 have hro:row.all one=true:=by obtain⟨_,_,h1,h2,h3,_⟩:=hs;rw[h1,slL_one _ _ h2 h3]
 obtain⟨v8,w8,hr8,b8,g8,m8⟩:=hN.push (P:=prog) app143_143 hrl hro (by decide) (by omega) (by omega) f.size;have f8:No w0 w8:=f.trans' g8 fun b' hb' h=>by have:=(hN.lt h).1;omega
 have key:∀ {row s},SlV w row s (fun b=>qQb v=some b)→SlV w8 row s fun b=>qQb v8=some b:=fun {row s} h=>by
  obtain⟨vv,nv,h1,h2,h3,h4,h5,h6,h7,h8⟩:=h;refine⟨vv,nv,h1,h2,h3,?_,?_,h6,fun hn b hb h=>?_,fun hn b hb h=>?_⟩
  ·exact (SlV.fr ⟨vv, nv, h1, h2, h3, h4, h5, h6, h7, h8⟩ g8 fun _ h=>h).elim fun vv' h=>by
    obtain⟨nv',e,_,_,q,_⟩:=h;have:=h1.symm.trans e;simp only[slL,rT,List.cons.injEq,true_and,and_true]at this;rw[this.1];exact q
  ·exact (SlV.fr ⟨vv, nv, h1, h2, h3, h4, h5, h6, h7, h8⟩ g8 fun _ h=>h).elim fun vv' h=>by
    obtain⟨nv',e,_,_,_,q,_⟩:=h;have:=h1.symm.trans e;simp only[slL,rT,List.cons.injEq,true_and,and_true]at this;rw[this.2];exact q
  ·rcases m8 b h with h | h
   ·exact h7 hn b hb h
   ·have:=h4.blk0 hn hb;omega
  ·rcases m8 b h with h | h
   ·exact h8 hn b hb h
   ·have:=h5.blk2 hn hb;omega
 refine⟨v8,w8,hr8,⟨rows++[row],b8,by simp[hrows],fun q hq hq'=>?_⟩,f8,g8⟩
 by_cases hql:q<rows.length
 ·rw[yM hql,yM (by omega)]
  exact key (hch q hql (by omega))
 ·obtain rfl:q=rows.length:=by simp at hq;omega
  rw[List.getElem_concat_length rfl];have el:(ss++[s])[rows.length]'hq'=s:=by simp[hrows]
  rw[el];exact key hs
theorem SlR.at {w:World}{v:Value}{ss:List (Bs × rR)}(h:SlR w v ss){i:Nat}(hi:i<ss.length):∃ b o cap vv nv, v=.slice (some ⟨b, o, Option.none⟩) ss.length cap∧one vv=true∧one nv=true∧By w vv (ss[i].2.1.getD [])∧RdD w nv ss[i].2.2∧ss[i].1.length=32 ∧
  ∀ w',No w w'→rdO prog 149 w' b (o+i*35)=some (.agg (slC ss[i].1 ss[i].2.1.isSome vv nv))∧rdO prog 34 w' b (o+i*35)=some (dg ss[i].1)∧rdO prog 4 w' b (o+i*35+32)=some (.bool ss[i].2.1.isSome)∧rdO prog 25 w' b (o+i*35+33)=some vv∧rdO prog 94 w' b (o+i*35+34)=some nv:=by
 obtain⟨rows,h1,h2,h3⟩:=h;obtain⟨b,o,cap,rfl,hc⟩:=h1.pos (by decide) (by omega);obtain⟨vv,nv,e1,e2,e3,e4,e5,e6,_⟩:=h3 i (by omega) hi;refine⟨b,o,cap,vv,nv,by rw[h2],e2,e3,e4,e5,e6,fun w' f=>⟨?_,?_,?_,?_,?_⟩⟩
 ·have:=(h1.fr0 f).get (P:=prog) (t:=149) agg149 sz149 (by decide) (i:=i) (by omega)
  rw[this,e1]
 ·have:=(h1.fr0 f).sub (P:=prog) (t:=34) (m:=32) agg34 sz34 (by decide) (i:=i) (by omega) (j:=0) (by decide) (xs:=ss[i].1.map u8) (by simp[e6]) (fun q hq=>by
   rw[e1,slL,Nat.zero_add,zL (by simp[e6];exact hq)])
  rw[jO]at this;exact this
 ·exact (h1.fr0 f).fld agg4 (by omega) (j:=32) (by decide) (by rw[e1,slL,jN (by simp[e6])];simp[e6])
 ·exact (h1.fr0 f).fld agg25 (by omega) (j:=33) (by decide) (by rw[e1,slL,jN (by simp[e6])];simp[e6])
 ·exact (h1.fr0 f).fld agg94 (by omega) (j:=34) (by decide) (by rw[e1,slL,jN (by simp[e6])];simp[e6])
namespace R
def coI (w0:World)(ev sv:Value)(top:Nat)(ss:List (Bs × rR))(n:Nat)(vs:List Value)(w:World):Prop :=
 ∃ (i:Nat) (kv:Value),vs=[ev,sv,.int .i64 (top:Nat),kv,.int .i64 (i:Nat)]∧i≤ss.length∧n=ss.length - i∧NwD w0 w 34 kv ((ss.map (·.1)).take i)∧No w0 w
theorem composed (wd:Int)(m:Bs→rR):∀ (n:Nat) (w0:World) {ss:List (Bs × rR)} {sv ev:Value} {top:Nat}, RdD w0 ev (empts wd 257)→SlR w0 sv ss→Wit.Asc (ss.map (·.1))→All32 (ss.map (·.1))→(∀ p ∈ ss, p.2=m p.1∧Wit.SgOk wd p.1 p.2)→0<ss.length→ss.length≤n→n≤64→Wit.Shr (256 - top) (ss.map (·.1))→top≤256 →
  Fn prog 83 #[ev,sv,.int .i64 (top:Nat)] w0 fun v w'=>NwB w0 w' v (rI wd (Wit.grow m n (ss.map (·.1)) top))∧No w0 w':=by
 intro n
 induction n with
 | zero=>intro w0 ss sv ev top _ _ _ _ _ h0 hn;omega
 | succ n ih =>
  intro w0 ss sv ev top he hS ha h32 hm h0 hn hn64 hsh htop;refine go83 (by simp) ?_;obtain⟨sb,so,sc,vv,nv,rfl,ho,hno,hv,hnn,hk32,hrd⟩:=hS.at h0;obtain⟨_,hsc⟩:∃ _:True,ss.length≤sc:=by obtain⟨a,c,e,h⟩:=hS.slice;cases e;exact⟨trivial,h⟩
  obtain⟨hm0,hok0⟩:=hm _ (List.getElem_mem h0);have hkl:(ss.map (·.1)).length=ss.length:=List.length_map _
  have hhd:(ss.map (·.1)).headD []=ss[0].1:=by
   cases ss with
   | nil=>exact absurd h0 (by simp)
   | cons p r=>rfl
  simp -implicitDefEqProofs only[go_sem,Nat.reduceAdd,Tryz.f83];refine loopD [0,1,2,7,8] (coI w0 ev (.slice (some ⟨sb,so,.none⟩) ss.length sc) top ss) ss.length ⟨0,_,rfl,by omega,rfl,NwD.nil _ _ _,Fr.refl _ _⟩ ?_;rintro _ vs w g ⟨i,kv,rfl,hi,rfl,hN,fw⟩
  by_cases hlt:i<ss.length
  ·have d1:=dTo ((i:Int)<((ss.length:Nat):Int))
   have y1:=iBd (i:=i) (n:=ss.length);have c1:=iSu (i:=i);obtain⟨_,_,_,_,_,e1,_,_,_,_,hki,hri⟩:=hS.at hlt;cases e1;obtain⟨_,rk,_⟩:=hri w fw;have hst:(ss.map (·.1)).take (i+1)=(ss.map (·.1)).take i++[ss[i].1]:=by rw[tSg (by simpa using hlt)];simp
   simp -implicitDefEqProofs only[go_sem,jF,gLa,gLz,y1,and_self,decide_true,if_true,iTn,jO,rk];refine qQl (v:=.slice (some ⟨w.heap.size,0,.none⟩) 1 1) (w':=w.alloc (.cells (bl ss[i].1) 34)) (qXb (y:=rC u8 (zG 32 0)) (by simp) (c:=bl (zG 32 0)) (by simp) (d:=ss[i].1) hki _) ?_;obtain⟨v8,w8,hr8,b8,g8,g8',m8⟩:=hN.push app24_24 hki (by rw[lTk,hkl];omega) fw;rw[← hst]at b8;simp -implicitDefEqProofs only[go_sem,jF];refine qQg ⟨v8,w8,hr8,?_⟩;simp -implicitDefEqProofs only[go_sem,jF,c1];exact⟨ss.length - (i+1),by omega,i+1,v8,rfl,by omega,rfl,b8,g8⟩
  ·have d1:=dFo ((i:Int)<((ss.length:Nat):Int))
   obtain rfl:i=ss.length:=by omega
   rw[zF (by rw[hkl];exact xP _)]at hN;have frm64:yL (ss.map (·.1))≤top:=by have:=Wit.frm_bound ha hsh (by omega);omega
   simp -implicitDefEqProofs only[go_sem,jF,gLa,gLz,d1];refine qQa pl136 ((fork w hN.rd ha (by rw[hkl];exact h0) (by rw[hkl];omega)).mono ?_);rintro _ w2 ⟨rfl,f2⟩;have f02:=fw.trans f2;obtain⟨_,_,rf,rv,rn⟩:=hrd w2 f02;simp only[Wit.grow,hkl,hhd];have y0:(0:Int)≤0∧(0:Int)<((ss.length:Nat):Int):=by omega
   by_cases h1:ss.length<2
   ·have e0:yL (ss.map (·.1))=0:=Wit.frm_one (by rw[hkl];exact h1)
    have d2:=dTo ((((yL (ss.map (·.1)):Nat):Int) - 1)<0);rw[if_pos h1];have fd:No w2 w2.drew:=(Fr.refl _ _).drew;have f02d:=f02.trans fd;obtain⟨_,_,rfd,rvd,rnd⟩:=hrd w2.drew f02d;rw[jA,jO]at rf rv rn rfd rvd rnd;have hnl:ss[0].2.2.length=256:=hok0.1.2.2.1
    have hsv:(ss[0].2.1.getD []).length≤128:=by
     cases hsa:ss[0].2.1 with
     | none=>simp
     | some v=>exact hok0.1.2.2.2.2 v hsa
    have hgl:rI wd (Wit.Tw.leaf ss[0].1 top (((m ss[0].1).2.drop (yL (ss.map (·.1)))).take (top - yL (ss.map (·.1)))) (m ss[0].1).1)=vG ss[0].2.1++sQ wd 0 ((ss[0].2.2.drop 0).take (top - 0)):=by rw[← hm0,e0];rfl
    rw[hgl];simp -implicitDefEqProofs only[go_sem,d2];refine qXh (fun j=>j == 10) [0,1,2,3,4,5,6,7,8,9,11,12,13,14,15,16,10,17,18,19] rfl (by kernel_rfl) (by kernel_rfl) ?_;simp -implicitDefEqProofs only[go_sem,jF,jB,gLa,gLz,gLs,y0,and_self,if_true,vL,jA,jO,rfd,rvd,rnd];refine qQt pl132 ((answer w2.drew (a:=ss[0].2.1) (hv.fr0 f02d) (by omega)).mono ?_);rintro v3 w3 ⟨n3,f3⟩;refine⟨fun _=>Fr.ext f3,?_⟩;simp -implicitDefEqProofs only[go_sem,jF,gLa,gLz,gLs];refine qQt pl133 ((nearR w3 wd (he.fr0 (f02d.trans f3)) (hnn.fr0 (f02d.trans f3)) (f:=0) (t:=top) (jZ _) (by omega) htop).mono ?_);rintro v4 w4 ⟨n4,f4⟩;refine⟨fun h=>(by cases h),?_⟩;simp -implicitDefEqProofs only[go_sem,jF,gLa,gLz,gLs]
    have l3:(vG ss[0].2.1).length≤2 ^ 40:=by
     cases hsa:ss[0].2.1 with
     | none=>simp[vG]
     | some v=>rw[hsa]at hsv;simp only[Option.getD_some]at hsv;simp[vG];omega
    have l4:(sQ wd 0 ((ss[0].2.2.drop 0).take (top - 0))).length≤2 ^ 40:=by
     have:=Wit.nearT_le wd 0 ((hok0.1.2.2.2.1.drop 0).take (top - 0));rw[lTk,lDr,hnl]at this;omega
    refine qQt pl131 ((joined w4 (n3.fr0 f4).by n4.by l3 l4).mono ?_);rintro v5 w5 ⟨n5,f5⟩;refine⟨fun h=>(by cases h),?_⟩;simp -implicitDefEqProofs only[go_sem,jB,gLa,gLz,gLs];exact⟨n5.back ((f02d.trans f3).trans f4).size,((f02d.trans f3).trans f4).trans f5⟩
   ·rw[if_neg h1]
    have h2:2≤(ss.map (·.1)).length:=by rw[hkl];omega
    have hp:=Wit.frm_pos ha h2;have hfl:=Wit.frm_le ha h2;have hlt:=Wit.lefts_lt ha h2;have hlp:=Wit.lefts_pos ha h2;rw[hkl]at hlt;have e257:256 - (yL (ss.map (·.1)) - 1)=257 - yL (ss.map (·.1)):=by omega
    have d2:=dFo ((((yL (ss.map (·.1)):Nat):Int) - 1)<0);have c2:IntKind.i64.wrap ((((yL (ss.map (·.1)):Nat):Int) - 1)+1)=((yL (ss.map (·.1)):Nat):Int):=by rw[Int.sub_add_cancel];exact i64n
    have ef:(((yL (ss.map (·.1)):Nat):Int) - 1)=((yL (ss.map (·.1)) - 1:Nat):Int):=by omega
    simp -implicitDefEqProofs only[go_sem,jF,d2];refine qQa pl137 ((left w2 (hN.rd.fr0 f2) ha h2 (by rw[hkl];omega)).mono ?_);rintro _ w3 ⟨rfl,f3⟩;have f03:=f02.trans f3;have hms:=List.map_take (f:=(·.1)) (l:=ss) (i:=yT (ss.map (·.1)));have hmd:=List.map_drop (f:=(·.1)) (l:=ss) (i:=yT (ss.map (·.1)));have hp1:=slc_hi (P:=prog) slc143 arr143 sz149 (a:=some ⟨sb,so,.none⟩) (n:=ss.length) (cap:=sc) (l:=yT (ss.map (·.1))) (by omega) hsc;have hp2:=slc_lo (P:=prog) slc143 arr143 sz149 (a:=some ⟨sb,so,.none⟩) (n:=ss.length) (cap:=sc) (l:=yT (ss.map (·.1))) (by omega) hsc
    have S1:∀ w',No w0 w'→SlR w' (V.cutV 35 (some ⟨sb,so,.none⟩) sc 0 (yT (ss.map (·.1)))) (ss.take (yT (ss.map (·.1)))):=fun w' f=>by
     have:=(hS.fr0 f).cutV (l:=0) (m:=yT (ss.map (·.1))) (jZ _) (by omega) rfl
     rwa [List.drop_zero,Nat.sub_zero]at this
    have S2:∀ w',No w0 w'→SlR w' (V.cutV 35 (some ⟨sb,so,.none⟩) sc (yT (ss.map (·.1))) ss.length) (ss.drop (yT (ss.map (·.1)))):=fun w' f=>by
     have:=(hS.fr0 f).cutV (l:=yT (ss.map (·.1))) (m:=ss.length) (by omega) (xP _) rfl
     rwa [zF (by rw[lDr];omega)]at this
    have T1:∀ w',No w0 w'→_:=fun w' f=>ih w' (top:=yL (ss.map (·.1)) - 1) (he.fr0 f) (S1 w' f) (by rw[hms];exact ha.take _) (by rw[hms];exact h32.take _) (fun p hp=>hm p (zM hp)) (by rw[lTk];omega) (by rw[lTk];omega) (by omega) (by rw[hms,e257];exact Wit.shr_take ha h2) (by omega);have T2:∀ w',No w0 w'→_:=fun w' f=>ih w' (top:=yL (ss.map (·.1)) - 1) (he.fr0 f) (S2 w' f) (by rw[hmd];exact ha.drop _) (by rw[hmd];exact h32.drop _) (fun p hp=>hm p (zN hp)) (by rw[lDr];omega) (by rw[lDr];omega) (by omega) (by rw[hmd,e257];exact Wit.shr_drop ha h2) (by omega)
    have hmk:∀ k ∈ ss.map (·.1),Wit.SgOk wd k (m k):=fun k hk'=>by
     obtain⟨p,hp,rfl⟩:=List.mem_map.1 hk';rw[← (hm p hp).1];exact (hm p hp).2
    obtain⟨g1,g1k,_⟩:=sX (n:=n) (top:=yL (ss.map (·.1)) - 1) (ha.take (yT (ss.map (·.1)))) (h32.take _) (by rw[lTk];omega) (by rw[lTk];omega) (by rw[e257];exact Wit.shr_take ha h2) (by omega) fun k hk'=>hmk k (zM hk');obtain⟨g2,g2k,_⟩:=sX (n:=n) (top:=yL (ss.map (·.1)) - 1) (ha.drop (yT (ss.map (·.1)))) (h32.drop _) (by rw[lDr];omega) (by rw[lDr];omega) (by rw[e257];exact Wit.shr_drop ha h2) (by omega) fun k hk'=>hmk k (zN hk');have t1:=txt_len wd g1;have t2:=txt_len wd g2;rw[g1k,lTk]at t1;rw[g2k,lDr]at t2;have hnl:ss[0].2.2.length=256:=hok0.1.2.2.1
    have l4:(sQ wd (yL (ss.map (·.1))) ((ss[0].2.2.drop (yL (ss.map (·.1)))).take (top - yL (ss.map (·.1))))).length≤2 ^ 20:=by
     have:=Wit.nearT_le wd (yL (ss.map (·.1))) ((hok0.1.2.2.2.1.drop (yL (ss.map (·.1)))).take (top - yL (ss.map (·.1))));rw[lTk,lDr,hnl]at this;omega
    have htx:rI wd (Wit.Tw.fork (ss.map (·.1)) (yL (ss.map (·.1))) top (((m ss[0].1).2.drop (yL (ss.map (·.1)))).take (top - yL (ss.map (·.1)))) (Wit.grow m n ((ss.map (·.1)).take (yT (ss.map (·.1)))) (yL (ss.map (·.1)) - 1)) (Wit.grow m n ((ss.map (·.1)).drop (yT (ss.map (·.1)))) (yL (ss.map (·.1)) - 1)))=(([2]:Bs)++sQ wd (yL (ss.map (·.1))) ((ss[0].2.2.drop (yL (ss.map (·.1)))).take (top - yL (ss.map (·.1)))))++rI wd (Wit.grow m n ((ss.map (·.1)).take (yT (ss.map (·.1)))) (yL (ss.map (·.1)) - 1))++rI wd (Wit.grow m n ((ss.map (·.1)).drop (yT (ss.map (·.1)))) (yL (ss.map (·.1)) - 1)):=by rw[← hm0];simp[rI]
    rw[htx];simp only[hms,hmd]at T1 T2;generalize hfe:yL (ss.map (·.1))=F at *;generalize rI wd (Wit.grow m n ((ss.map (·.1)).take (yT (ss.map (·.1)))) (F - 1))=tx1 at *;generalize rI wd (Wit.grow m n ((ss.map (·.1)).drop (yT (ss.map (·.1)))) (F - 1))=tx2 at *;simp -implicitDefEqProofs only[go_sem];refine qQl (v:=.slice (some ⟨w3.heap.size,0,.none⟩) 1 1) (w':=w3.alloc (.cells (bl [2]) 5)) rfl ?_;have n5:NwB w3 (w3.alloc (.cells (bl [2]) 5)) (.slice (some ⟨w3.heap.size,0,.none⟩) 1 1) [2]:=mk_nw w3 w3 5 1 1 1 (bl [2]) (xP _) rfl (xP _);have f5:No w3 (w3.alloc (.cells (bl [2]) 5)):=(Fr.refl _ _).alloc _;generalize w3.alloc (.cells (bl [2]) 5)=w5 at *;generalize (Value.slice (some ⟨w3.heap.size,0,.none⟩) 1 1)=v5 at *;have f05:=f03.trans f5;obtain⟨_,_,_,_,rn5⟩:=hrd w5 f05;rw[jA,jO]at rn5;simp -implicitDefEqProofs only[go_sem,jF,y0,and_self,if_true,vL,jA,rn5,c2];refine qQa pl133 ((nearR w5 wd (he.fr0 f05) (hnn.fr0 f05) (f:=F) (t:=top) (by omega) (by omega) htop).mono ?_);rintro v6 w6 ⟨n6,f6⟩;have f06:=f05.trans f6;simp -implicitDefEqProofs only[go_sem,jF];refine qQa pl131 ((joined w6 (n5.fr0 f6).by n6.by (by decide) (by omega)).mono ?_);rintro v7 w7 ⟨n7,f7⟩;have f07:=f06.trans f7;simp -implicitDefEqProofs only[go_sem,jF,hp1,ef];refine qQa pl83 ((T1 w7 f07).mono ?_);rintro v8 w8 ⟨n8,f8⟩;simp -implicitDefEqProofs only[go_sem,jF];refine qQa pl131 ((joined w8 (n7.fr0 f8).by n8.by (by simp only[lAp,jK];omega) (by omega)).mono ?_);rintro v9 w9 ⟨n9,f9⟩;have f09:=(f07.trans f8).trans f9;simp -implicitDefEqProofs only[go_sem,jF,hp2];refine qQa pl83 ((T2 w9 f09).mono ?_);rintro va wa ⟨na,fa⟩;simp -implicitDefEqProofs only[go_sem,jF];refine qQa pl131 ((joined wa (n9.fr0 fa).by na.by (by simp only[lAp,jK];omega) (by omega)).mono ?_)
    rintro vb wb ⟨nb,fb⟩;simp -implicitDefEqProofs only[go_sem];exact⟨nb.back (f09.trans fa).size,(f09.trans fa).trans fb⟩
end R
end Go.V
