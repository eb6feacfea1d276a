/- Helpers. -/
import Derived.Test.YtmenaeggoakppaaGreatDoorG43
import Derived.Test.YtmenaeggoakppaaGreatDoorG44
import Derived.Test.YtmenaeggoakppaaGreatDoorG41
import Derived.Test.YtmenaeggoakppaaGreatDoorG42
import Derived.Test.YtmenaeggoakppaaGreatDoorG25
set_option linter.all false
set_option maxRecDepth 100000
set_option maxHeartbeats 8000000
open Go.Builtin renaming firstCells→xU,nextslicecap→xG,append_→qN
open List renaming replicate→zG,take_of_length_le→zF,getElem_mem→vA,length_map→zU,filter_cons→sZ,filter_nil→sJ,getElem?_append_right→jN,drop_eq_getElem_cons→vS,map_cons→qP,drop_of_length_le→zC,filter_append→sV
open Nat renaming reduceEqDiff→jF,le_refl→xP,reduceBEq→jB,mul_one→jH,reduceAdd→vJ,lt_irrefl→jD,sub_self→jQ,mul_le_mul_right→xM
open Go.Value renaming cells→jM
open Go.V.Wit renaming gatherP→rE,nearH→rQ,findS→rP,poss→kA,sgsP→rO,Sg→rR,nearL→rX,shr_zero→sY
namespace Go.V
open Go.Proofs.Tryz Go.V.Tryz
open Go.Proofs Sha
variable {k:Bs} {qs:List (Nat × Nat × Nat)} {ks raws:List Bs} {pb:Nat} {kq:Nat × Nat × Nat} {av iv kv tsv v:Value} {w w0:World}
theorem slC_zero:(Array.replicate 32 (.int .u8 0)++#[.bool false,.slice Option.none 0 0,.slice Option.none 0 0]:Array Value)=slC (zG 32 0) false (.slice Option.none 0 0) (.slice Option.none 0 0):=by
 apply Array.toList_inj.1;simp[slL,u8]
theorem bldS {p:Bool}(hk:k.length=32)(hv:one v=true):bldO prog 149 [(0,dg k),(1,.agg #[.bool p,v])]=some (.agg (slC k p v (.slice Option.none 0 0))):=by
 simp only[bldO,zero149,places149,Option.bind_some];have hz:(Value.agg (Array.replicate 32 (.int .u8 0)++#[Value.bool false,Value.slice .none 0 0,Value.slice .none 0 0])).cells.size=35:=rfl;have e:(dg k).cells.toList=k.map u8:=rfl;have e2:(Value.agg #[.bool p,v]).cells.toList=[.bool p,v]:=rfl;rw[qZd (off:=0) (n:=32) rfl (by simp[jM,hk]) (by rw[hz];decide),qZd (off:=32) (n:=2) rfl rfl (by rw[qXn,hz];decide),fill_nil',Option.map_some]
 congr 2
 apply Array.toList_inj.1;rw[e,e2,qXk _ _ _ (by rw[qXn,hz];simp),qXk _ _ _ (by rw[hz,zU,hk];decide)];simp[jM,hk,slL,List.drop_append]
theorem filt {l:List (Bs × rR)}(hn:(l.map (·.1)).Nodup)(h:k ∈ l.map (·.1)):l.filter (fun p=>p.1 == k)=[(k,rP l k)]:=by
 induction l with
 | nil=>cases h
 | cons p r ih =>
  obtain⟨a,s⟩:=p;rw[qP,List.nodup_cons]at hn;unfold rP
  by_cases e:a=k
  ·subst e
   have:r.filter (fun p=>p.1 == a)=[]:=by
    rw[List.filter_eq_nil_iff];intro q hq hqa;exact hn.1 (List.mem_map.2 ⟨q,hq,by simpa using hqa⟩)
   simp[this]
  ·have h':k ∈ r.map (·.1):=by
    simp only[qP,List.mem_cons]at h
    rcases h with h | h
    ·exact absurd h.symm e
    ·exact h
   have hb:(a == k)=false:=by rw[bFn];exact e
   rw[sZ,if_neg (by simp[e]),if_neg e];exact ih hn.2 h'
namespace R
def gvK (w1:World)(wd:Int)(kv tsv:Value)(rb:Nat)(lv ev av:Value)(i:Nat)(x:Except Int rR)(x0 x2 x3 x5 x10 x12 x13 x14 x15 x16:Value)(w:World):Prop :=
 ∃ ab p v e,x0=.int .i64 wd∧x2=kv∧x3=tsv∧x5=pt rb 0∧x10=lv∧x12=ev∧x13=av∧x14=.int .i64 (i:Nat)∧x15=pt ab 0∧x16=.int .i64 e ∧
  w.heap[ab]?=some (.cells #[.bool p,v] 69 (0,0))∧SvE w x p v e∧(∀ b,qQb v=some b→w1.heap.size≤b)∧No w1 w
def gaI (w4:World)(wd:Int)(root:Bs)(kv tsv:Value)(rb:Nat)(lv ev:Value)(ks raws:List Bs)(n:Nat)(vs:List Value)(w:World):Prop :=
 ∃ (i:Nat) (av:Value) (ls:List (Bs × rR)),vs=[.int .i64 wd,kv,tsv,pt rb 0,lv,ev,av,.int .i64 (i:Nat)]∧i≤ks.length∧n=ks.length - i ∧
  SlX w4 w av ls∧ls.map (·.1)=ks.take i∧rO wd root (ks.drop i) (raws.drop i) ls=rO wd root ks raws []∧No w4 w
def giI (wS wI:World)(wd:Int)(a:Option Bs)(bits:Bs)(sums:List Bs)(k:Bs)(v:Value)(kv tsv:Value)(rb pb xb:Nat)(lv ev av:Value)(i:Nat)(n:Nat)(vs:List Value)(w:World):Prop :=
 ∃ (h:Nat) (nv:Value),vs=[.int .i64 wd,kv,tsv,pt rb 0,lv,ev,av,.int .i64 (i:Nat),pt pb 0,pt xb 0,.int .i64 ((kA bits h 0).length:Nat),.int .i64 (h:Nat)]∧h≤256∧n=256 - h ∧
  w.heap[xb]?=some (.cells (slC k a.isSome v nv) 149 (0,0))∧NwD wS w 23 nv ((rX wd bits sums).take h)∧(∀ b,qQb nv=some b→xb<b)∧Fr (fun b=>b=xb) wI w∧No wS w
def gsI (wB:World)(wd:Int)(rb:Nat)(lv ev av:Value)(l:List Bs)(ls:List (Bs × rR))(n:Nat)(vs:List Value)(w:World):Prop :=
 ∃ (i:Nat) (bv:Value),vs=[.int .i64 wd,pt rb 0,lv,ev,av,bv,.int .i64 (i:Nat)]∧i≤l.length∧n=l.length - i∧SlX wB w bv ((l.take i).map fun k=>(k,rP ls k))∧No wB w
def gtI (wB:World)(wd:Int)(rb:Nat)(lv ev av:Value)(pre:List (Bs × rR))(k:Bs)(ls:List (Bs × rR))(i:Nat)(n:Nat)(vs:List Value)(w:World):Prop :=
 ∃ (j:Nat) (bv:Value),vs=[.int .i64 wd,pt rb 0,lv,ev,av,bv,.int .i64 (i:Nat),.int .i64 (j:Nat)]∧j≤ls.length∧n=ls.length - j∧SlX wB w bv (pre++(ls.take j).filter (fun p=>p.1 == k))∧No wB w
theorem gatherR (w0:World)(ht:Tabs w0)(wd:Int){root:Bs}(hroot:root.length=32){A:Nat→Prop}(hk:RdD w0 kv ks)(hts:TsA w0 tsv raws A)(hrl:∀ r ∈ raws, r.length≤2 ^ 47) :
  Fn prog 41 #[.int .i64 wd,dg root,kv,tsv] w0 (BsQ w0 (rE wd root ks raws)):=by
 refine go41 (by simp) ?_;obtain⟨W,hW,f1,k1,s1⟩:=qQs w0 (bl root) 23;obtain⟨ra,rc,rfl⟩:=hts.slice;have rr:∀ w,No W w→rdO prog 23 w w0.heap.size 0=some (dg root):=fun w f=>rd_d agg23 sz23 (f.at k1 id) hroot;unfold BsQ
 by_cases hw:wd<1∨32<wd
 ·have hvp:rE wd root ks raws=.error 1:=by unfold rE Wit.sortW;rw[if_pos hw]
  rw[hvp]
  by_cases h1:wd<1
  ·have d1:decide (wd<1)=true:=decide_eq_true h1
   simp -implicitDefEqProofs only[go_sem,jF,vJ,gLa,gLz,gLs,Tryz.f41,jM,hW,d1,tf_beq];exact⟨f1,trivial⟩
  ·have d1:decide (wd<1)=false:=decide_eq_false h1
   have d2:=dTo (wd > 32);simp -implicitDefEqProofs only[go_sem,jF,vJ,gLa,gLz,gLs,Tryz.f41,jM,hW,d1,d2,bSe];exact⟨f1,trivial⟩
 have hsw:Wit.sortW wd ks=Wit.sortE ks:=if_neg hw;have d1:=dFo (wd<1);have d2:=dFo (wd > 32)
 obtain⟨Wn,hWn⟩:∃ n:Nat,wd=n:=⟨wd.toNat,by omega⟩
 simp -implicitDefEqProofs only[go_sem,jF,vJ,gLa,gLz,gLs,Tryz.f41,jM,hW,d1,d2,bSe];refine qQa pl72 ((sorted W (hk.fr0 f1)).mono ?_);rintro r w2 ⟨f2,h2⟩;have f02:=f1.trans f2
 cases hs:Wit.sortE ks with
 | error e =>
  rw[hs]at h2;subst h2;have he:=sortW_err (wd:=wd) (hsw.trans hs);have hG:rE wd root ks raws=.error e:=by unfold rE;rw[hsw,hs]
  rw[hG];simp -implicitDefEqProofs only[go_sem,jF,gLa,gLz,gLs,he];exact⟨f02,trivial⟩
 | ok l =>
 rw[hs]at h2;obtain⟨lv,rfl,n2⟩:=h2;obtain⟨asc,l32,hlen,hl64,hperm⟩:=Wit.sortE_ok hk.1 hs;obtain⟨ka,kc,rfl,hkc⟩:=hk.slice
 by_cases hn:ks.length≠raws.length
 ·have d3:(((ks.length:Nat):Int) != ((raws.length:Nat):Int))=true:=by rw[bne_iff_ne];omega
  have hG:rE wd root ks raws=.error 1:=by unfold rE;rw[hsw,hs];exact if_pos hn
  rw[hG];simp -implicitDefEqProofs only[go_sem,jF,gLa,gLz,gLs,bNe,d3];exact⟨f02,trivial⟩
 have hG:rE wd root ks raws=match rO wd root ks raws [] with
  | .error e=>.error e
  | .ok s=>if l=[] then .ok [] else if Wit.dig wd Wit.asIs (Wit.grow (rP s) l.length l 256)=root then .ok (Wit.txt wd (Wit.grow (rP s) l.length l 256)) else .error 131:=by
  unfold rE;rw[hsw,hs];exact if_neg hn
 rw[hG];clear hG;have hn:ks.length=raws.length:=by omega
 have d3:(((ks.length:Nat):Int) != ((raws.length:Nat):Int))=false:=by rw[bne_eq_false_iff_eq];omega
 have hk64:ks.length≤64:=by omega
 simp -implicitDefEqProofs only[go_sem,jF,gLa,gLz,gLs,bNe,d3];refine qQa pl57 ((empties w2 (ht.no f02) wd).mono ?_);rintro ev w4 ⟨ne,f4⟩;have f04:=f02.trans f4;have f14:=f2.trans f4;have hnd:ks.Nodup:=hperm.nodup_iff.1 (Wit.asc_nodup asc);simp -implicitDefEqProofs only[go_sem];refine loopD [0,2,3,5,10,12,13,14] (gaI w4 wd root (.slice ka ks.length kc) (.slice ra raws.length rc) w0.heap.size lv ev ks raws) ks.length ⟨0,_,[],rfl,by omega,rfl,SlX.nil _ _,rfl,rfl,Fr.refl _ _⟩ ?_;rintro _ vs w g ⟨i,av,ls,rfl,hi,rfl,hS,hkeys,hsg,fw⟩;have f0w:=f04.trans fw;have f1w:=f14.trans fw
 by_cases hlt:i<ks.length
 ·have d4:=dTo ((i:Int)<((ks.length:Nat):Int))
  have y1:=iBd (i:=i) (n:=ks.length);have y2:=iBd (i:=i) (n:=raws.length);have ci:=iSu (i:=i);obtain⟨kb0,ko,kc',e1,_⟩:=(hk.fr0 f0w).pos (show 0<ks.length by omega);cases e1;have rk:=fun w' (f:No w w')=>(hk.fr0 (f0w.trans f)).get (P:=prog) agg34 sz34 hlt;obtain⟨tb0,to,tc,xv,e2,hx,_,hxr⟩:=hts.at (show i<raws.length by omega);cases e2;have hdk:ks.drop i=ks.getD i []::ks.drop (i+1):=by rw[vS hlt,qQi _ hlt]
  have hdr:raws.drop i=raws.getD i []::raws.drop (i+1):=by rw[vS (by omega),qQi _ (by omega)]
  have htk:ks.take (i+1)=ks.take i++[ks.getD i []]:=by rw[tSg hlt,qQi _ hlt]
  have hk32:(ks.getD i []).length=32:=hk.1.getD hlt;have hrl':(raws.getD i []).length≤2 ^ 47:=hrl _ (by rw[qQi _ (by omega)];exact vA _);rw[hdk,hdr,rO]at hsg;generalize ks.getD i []=k at *;generalize raws.getD i []=raw at *;have fd:No w w.drew:=(Fr.refl _ _).drew;have rrd:=rr w.drew (f1w.trans fd);have rkd:=rk w.drew fd;have rxd:=hxr w.drew (f0w.trans fd);simp -implicitDefEqProofs only[go_sem,jF,gLa,gLz,d4];refine qJo (fun j=>j == 10 || j == 14) (.one 0 (.one 1 (.one 2 (.one 3 (.one 4 (.one 5 (.one 6 (.one 7 (.one 8 (.one 9 (.two 10 (.row [11,12,13,14,15,16]) 14 (.row [10,11,12,13,15,16])))))))))))) rfl (by kernel_rfl) (by kernel_rfl) ?_;refine qXm (K:=fun ev' w'=>gvK w wd (.slice (some ⟨kb0,ko,.none⟩) ks.length kc) (.slice (some ⟨tb0,to,.none⟩) raws.length rc) w0.heap.size lv ev av i (Wit.sgP wd root k raw) (ev' 0) (ev' 2) (ev' 3) (ev' 5) (ev' 10) (ev' 12) (ev' 13) (ev' 14) (ev' 15) (ev' 16) w') ?rest _ ?main
  case main =>
   simp only[OT.row];simp -implicitDefEqProofs only[go_sem,jF,jB,gLa,gLz,gLs,rrd,y1,rkd,y2,and_self,if_true,iTn,jH,rxd];refine⟨?_,?_⟩
   ·refine qQn pl81 ((verify13 w.drew (ht.no (f0w.trans fd)) wd hroot hk32 (hx.fr0 (f0w.trans fd)) hrl').mono ?_)
    intro r w6 h6;obtain⟨f6,p,v,e,rfl,hE,hvb⟩:=h6.e;refine⟨fun _=>Fr.ext f6,?_⟩;obtain⟨W7,hW7,f7,k7,s7⟩:=qQs w6 #[.bool false,.slice .none 0 0] 69;obtain⟨q7,_⟩:=ansW k7 (p:=p) hE.1;have k8:=qQf (o:=.cells #[.bool p,v] 69 (0,0)) k7;simp -implicitDefEqProofs only[go_sem,jF,jB,gLa,gLz,gLs,jM,hW7,q7];have f8:No w6 (put W7 w6.heap.size (.cells #[.bool p,v] 69 (0,0))):=f7.put (b:=w6.heap.size) _ fun h=>absurd h (jD _);exact⟨fun _=>hW7 ▸ Ext.alloc _ _,_,p,v,e,rfl,rfl,rfl,rfl,rfl,rfl,rfl,rfl,rfl,rfl,k8,hE.fr0 f8,hvb,(fd.trans f6).trans f8⟩
   ·have f57:No w (w.alloc (.cells #[.bool false,.slice .none 0 0] 69)).drew:=((Fr.refl _ _).alloc _).drew
    have k7:(w.alloc (.cells #[.bool false,.slice .none 0 0] 69)).drew.heap[w.heap.size]?=_:=qQc w (.cells #[.bool false,.slice .none 0 0] 69);refine⟨fun _=>Ext.alloc _ _,?_⟩;generalize (w.alloc (.cells #[.bool false,.slice .none 0 0] 69)).drew=W7 at *;refine qQn pl81 ((verify13 W7 (ht.no (f0w.trans f57)) wd hroot hk32 (hx.fr0 (f0w.trans f57)) hrl').mono ?_);intro r w6 h6;obtain⟨f6,p,v,e,rfl,hE,hvb⟩:=h6.e;refine⟨fun _=>Fr.ext f6,?_⟩;have k7':=f6.at k7 id;obtain⟨q7,_⟩:=ansW k7' (p:=p) hE.1;have k8:=qQf (o:=.cells #[.bool p,v] 69 (0,0)) k7';simp -implicitDefEqProofs only[go_sem,jF,jB,gLa,gLz,gLs,q7];have f8:No w (put w6 w.heap.size (.cells #[.bool p,v] 69 (0,0))):=(f57.trans f6).put (b:=w.heap.size) _ fun h=>absurd h (jD _);have f68:Fr (fun b=>b=w.heap.size) w6 (put w6 w.heap.size (.cells #[.bool p,v] 69 (0,0))):=(Fr.refl _ _).put (b:=w.heap.size) _ fun _=>rfl;have s57:=f57.size;refine⟨_,p,v,e,rfl,rfl,rfl,rfl,rfl,rfl,rfl,rfl,rfl,rfl,k8,hE.frA f68 fun h=>?_,fun b hb=>by have:=hvb b hb;omega,f8⟩;subst h
    exact⟨_,_,_,k7',fun i x=>by
     match i with
     | 0=>simp[u8]
     | 1=>simp[u8]
     | i+2=>simp⟩
  case rest =>
   rintro ev' w6 ⟨ab,p,v,e,e0,e2,e3,e5,e10,e12,e13,e14,e15,e16,k6,hE,hvb,f6⟩;have f06:=f0w.trans f6;obtain⟨ho,hE⟩:=hE
   cases hp:Wit.sgP wd root k raw with
   | error e' =>
    rw[hp]at hE hsg;obtain rfl:e=e':=hE;have hsg:Except.error e=rO wd root ks raws []:=hsg;rw[← hsg];have he:(e != 0)=true:=by rw[bne_iff_ne];exact Wit.sgP_err hp
    simp -implicitDefEqProofs only[go_sem,jF,e16,he];exact⟨f06,trivial⟩
   | ok s =>
   rw[hp]at hE hsg;obtain⟨rfl,rfl,hv⟩:=hE;have hp':=hp;unfold Wit.sgP at hp'
   cases hh:C.heldP wd root k raw with
   | error e=>rw[hh]at hp';cases hp'
   | ok y =>
   obtain⟨a,bits,sums⟩:=y;rw[hh]at hp';have hp':Except.ok (a,rX wd bits sums)=Except.ok (ε:=Int) s:=hp';cases hp';have hdc:=(Wit.held_form hh).2;obtain⟨hbl,hsl,_,_⟩:=Wit.decP_ok hdc;have rx6:=hxr w6 f06;simp -implicitDefEqProofs only[go_sem,jF,e16,e3,e14,bNe,y2,and_self,if_true,iTn,jH,rx6];refine qQa pl82 ((decode12 w6 (hx.fr0 f06) hrl').mono ?_);rintro r w7 ⟨f7,h7⟩;rw[hdc]at h7;obtain⟨pv,sv,rfl,hpv,hsv,hpo,hso,hpb,hsb⟩:=h7;have f07:=f06.trans f7;obtain⟨W8,hW8,f8,k8,s8⟩:=qQs w7 pZ 122;have q8:wrO prog 122 W8 w7.heap.size 0 (.agg (prL a.isSome pv bits sv).toArray)=some (put W8 w7.heap.size (.cells (prL a.isSome pv bits sv).toArray 122 (0,0))):=qQw (by simp[qXv hbl,sz122]) k8 (by simp[pZ,qXv hbl]) (by rw[← Array.all_toList];exact qJz hpo hso);have k9:=qQf (o:=.cells (prL a.isSome pv bits sv).toArray 122 (0,0)) k8;have f9:No w7 (put W8 w7.heap.size (.cells (prL a.isSome pv bits sv).toArray 122 (0,0))):=f8.put (b:=w7.heap.size) _ fun h=>absurd h (jD _)
   obtain⟨w9,hw9⟩:∃ w9,w9=put W8 w7.heap.size (.cells (prL a.isSome pv bits sv).toArray 122 (0,0)):=⟨_,rfl⟩
   rw[← hw9]at q8 k9 f9;have f69:=f7.trans f9;have fw9:=f6.trans f69;have fd9:No w9 w9.drew:=(Fr.refl _ _).drew;have hpb9:w7.heap.size<w9.heap.size:=qQh k9;have rk9:=rk w9.drew (fw9.trans fd9);have rA9:rdO prog 69 w9.drew ab 0=some (.agg #[.bool a.isSome,v]):=qXz agg69 sz69 ((f69.trans fd9).at k6 id);have bl10:=bldS (p:=a.isSome) hk32 ho;simp -implicitDefEqProofs only[go_sem,jF,gLa,gLz,gLs,hW8,jM,q8];refine qXh (fun j=>j == 6) [0,1,2,3,4,5,6,7] rfl (by kernel_rfl) (by kernel_rfl) ?_;have f10:No w9 (w9.alloc (.cells (slC (zG 32 0) false (.slice .none 0 0) (.slice .none 0 0)) 149)).drew:=((Fr.refl _ _).alloc _).drew;have k10:(w9.alloc (.cells (slC (zG 32 0) false (.slice .none 0 0) (.slice .none 0 0)) 149)).drew.heap[w9.heap.size]?=_:=qQc w9 (.cells (slC (zG 32 0) false (.slice .none 0 0) (.slice .none 0 0)) 149)
   obtain⟨W10,hW10⟩:∃ W10,(w9.alloc (.cells (slC (zG 32 0) false (.slice .none 0 0) (.slice .none 0 0)) 149)).drew=W10:=⟨_,rfl⟩
   rw[hW10]at f10 k10;have q10:wrO prog 149 W10 w9.heap.size 0 (.agg (slC k a.isSome v (.slice .none 0 0)))=some (put W10 w9.heap.size (.cells (slC k a.isSome v (.slice .none 0 0)) 149 (0,0))):=qQw (by simp[slL_len _ _ _ hk32,sz149]) k10 (by simp[slL,hk32]) (by rw[← Array.all_toList];exact slL_one _ _ ho rfl);have k11:=qQf (o:=.cells (slC k a.isSome v (.slice .none 0 0)) 149 (0,0)) k10;have f11:No w9 (put W10 w9.heap.size (.cells (slC k a.isSome v (.slice .none 0 0)) 149 (0,0))):=f10.put (b:=w9.heap.size) _ fun h=>absurd h (jD _)
   obtain⟨w11,hw11⟩:∃ w11,w11=put W10 w9.heap.size (.cells (slC k a.isSome v (.slice .none 0 0)) 149 (0,0)):=⟨_,rfl⟩
   rw[← hw11]at q10 k11 f11;have f911:=f11
   have s11:w11.heap.size=w9.heap.size+1:=by
    have s10:W10.heap.size=w9.heap.size+1:=by rw[← hW10];exact qQd _ _
    rw[hw11,← s10];simp[put]
   simp -implicitDefEqProofs only[go_sem,jF,jB,gLa,gLz,gLs,e2,e14,e15,y1,and_self,if_true,iTn,rk9,rA9,bl10,jM,slC_zero,hW10,q10,bSe];refine⟨fun _=>by rw[← hW10];exact Ext.alloc w9.drew _,?_⟩;refine loopD [0,2,3,5,10,12,13,14,17,19,20,21] (giI w w11 wd a bits sums k v (.slice (some ⟨kb0,ko,.none⟩) ks.length kc) (.slice (some ⟨tb0,to,.none⟩) raws.length rc) w0.heap.size w7.heap.size w9.heap.size lv ev av i) 256 ⟨0,_,?_,by omega,rfl,k11,NwD.nil _ _ _,(fun b h=>by cases h),Fr.refl _ _,fw9.trans f911⟩ ?_
   ·simp -implicitDefEqProofs only[go_sem,jF,qP,List.map_nil,e0,e2,e3,e5,e10,e12,e13,e14]
    rfl
   rintro _ vs w12 g ⟨h,nv,rfl,hh,rfl,kx,hN,hNb,fi,fwi⟩;have hxw:w.heap.size≤w9.heap.size:=fw9.size;have hx11:w9.heap.size<w11.heap.size:=qQh k11;have h1112:=fi.size;have f4c:No w4 w12:=fw.trans fwi
   by_cases hh2:h<256
   ·have d5:=dTo ((h:Int)<256)
    have y3:(0:Int)≤(h:Int)∧(h:Int)<(((empts wd 257).length:Nat):Int):=by rw[qQm wd 257];omega
    have c1:=iSu (i:=h);have hemp:(empts wd 257).getD h []=emptD wd h:=by rw[gDq,qXw wd 257 (by omega)];rfl
    obtain⟨eb,eo,ec,rfl,_⟩:=ne.rd.pos (by rw[qQm wd 257];omega);have rdn:=((ne.fr0 f4c).rd).get (P:=prog) agg23 sz23 (i:=h) (by rw[qQm wd 257];omega);rw[hemp]at rdn;obtain⟨W13,q13,k13,f13,s13⟩:=allocD w12 sz23 (qQp wd h);have n8:((8:Int)=0)=False:=by simp
    have a1:IntKind.i64.wrap ((h:Int).tdiv 8)=((h / 8:Nat):Int):=by rw[show (h:Int).tdiv 8=((h / 8:Nat):Int) from rfl];exact i64n
    have a2:(h:Int).tmod 8=((h % 8:Nat):Int):=rfl;have a3:IntKind.i64.wrap ((h % 8:Nat):Int)=((h % 8:Nat):Int):=i64n;have a4:IntKind.u64.wrap ((h % 8:Nat):Int)=((h % 8:Nat):Int):=u64n (by omega);have n2':¬ (((h % 8:Nat):Int)<0):=by omega
    have y4:(0:Int)≤((h / 8:Nat):Int)∧((h / 8:Nat):Int)<((32:Nat):Int):=by omega
    have kp12:=fi.at (f911.at k9 id) (show w7.heap.size≠w9.heap.size by omega);have kp13:=f13.at kp12 id;have rbit:=prRdBit kp13 hbl (i:=h / 8) (by omega);have hm:=mbit_and1 bits h
    have D32:(rQ wd bits sums h).length=32:=by
     rw[← nearL_at wd bits sums hh2];exact (Wit.sgP_ok hk32 hp).1.2.2.2.1.getD (by rw[qXq];exact hh2)
    have kx13:=f13.at kx id
    have push:∀ w14:World, Fr (fun b=>b=w12.heap.size) W13 w14→w14.heap[w12.heap.size]?=some (.cells (bl (rQ wd bits sums h)) 23 (0, 0)) →
      rdO prog 94 w14 w9.heap.size 34=some nv∧rdO prog 23 w14 w12.heap.size 0=some (dg (rQ wd bits sums h))∧∃ v15 w15 w16,(qN #[94,94] 0 #[nv,.slice (some ⟨w14.heap.size,0,.none⟩) 1 1]).run prog (w14.alloc (.cells (bl (rQ wd bits sums h)) 23))=.ok v15 w15∧wrO prog 94 w15 w9.heap.size 34 v15=some w16 ∧
      giI w w11 wd a bits sums k v (.slice (some ⟨kb0,ko,.none⟩) ks.length kc) (.slice (some ⟨tb0,to,.none⟩) raws.length rc) w0.heap.size w7.heap.size w9.heap.size lv (.slice (some ⟨eb,eo,.none⟩) (empts wd 257).length ec) av i (256 - (h+1)) [.int .i64 wd,.slice (some ⟨kb0,ko,.none⟩) ks.length kc,.slice (some ⟨tb0,to,.none⟩) raws.length rc,pt w0.heap.size 0,lv,.slice (some ⟨eb,eo,.none⟩) (empts wd 257).length ec,av,.int .i64 (i:Nat),pt w7.heap.size 0,pt w9.heap.size 0,.int .i64 ((kA bits (h+1) 0).length:Nat),.int .i64 ((h+1:Nat):Int)] w16:=fun w14 f14 kd=>by
     have kx14:=f14.at kx13 (by omega);have hN14:=(hN.fr0 f13).fr f14 fun b hb h=>by have:=(hN.lt hb).2;omega
     have fw14:No w w14:=(fwi.trans f13).trans' f14 fun b hb h=>by have:=fwi.size;omega
     have hs14:W13.heap.size≤w14.heap.size:=f14.size;obtain⟨v15,w15,hr,b15,g15,g15',m15⟩:=hN14.push app94_94 D32 (by rw[lTk,qXq];omega) fw14;rw[← near_snoc hh2]at b15;have o15:one v15=true:=by obtain⟨a,c,rfl,_⟩:=b15.rd.slice;rfl
     have kx15:=g15'.at kx14 fun h=>by have:=hNb _ h;omega
     have q16:wrO prog 94 w15 w9.heap.size 34 v15=some (put w15 w9.heap.size (.cells (slC k a.isSome v v15) 149 (0,0))):=by
      have e:∀ z,slL k a.isSome v z=(k.map u8++[.bool a.isSome,v])++z::[]:=fun z=>by simp[slL]
      rw[slC,e]at kx15;rw[slC,e];exact wr_one (A:=k.map u8++[.bool a.isSome,v]) (C:=[]) sz94 kx15 o15 (by simp[hk32])
     have k16:=qQf (o:=.cells (slC k a.isSome v v15) 149 (0,0)) kx15
     have hb15:∀ b,qQb v15=some b→w9.heap.size<b:=fun b hb=>by
      rcases m15 b hb with h | h
      ·exact hNb b h
      ·omega
     have f1115:Fr (fun b=>b=w9.heap.size) w11 w15:=((fi.trans (f13.mono fun _ _ h=>h.elim)).trans' f14 fun b hb h=>by omega).trans' g15' fun b hb h=>by have:=hNb b h;omega
     refine⟨rd1 agg94 kx14 (by rw[slC,List.getElem?_toArray,slL,jN (by simp[hk32])];simp[hk32]),rd_d agg23 sz23 kd D32,v15,w15,_,hr,q16,h+1,v15,rfl,by omega,rfl,k16,b15.fr ((Fr.refl (fun b=>b=w9.heap.size) w15).put (b:=w9.heap.size) _ fun _=>rfl) (fun b hb h=>by have:=hb15 b hb;omega),hb15,f1115.put (b:=w9.heap.size) _ fun _=>rfl,g15.put (b:=w9.heap.size) _ fun h=>by omega⟩
    cases hb:Wit.mbit bits h with
    | false =>
     rw[hb]at hm;have hD:rQ wd bits sums h=emptD wd h:=by unfold rQ;rw[if_pos hb]
     obtain⟨rt,rd',v15,w15,w16,hr,q16,hI⟩:=push W13 (Fr.refl _ _) (by rw[hD];exact k13);rw[Wit.gs_skip hb]at hI;simp -implicitDefEqProofs only[go_sem,jF,d5,y3,and_self,if_true,iTn,rdn,jM,qQj,q13,n8,a1,a2,a4,n2',y4,jH,rbit,hm];simp -implicitDefEqProofs only[go_sem,jF,rt,rd'];refine qQl (v:=.slice (some ⟨W13.heap.size,0,.none⟩) 1 1) (w':=W13.alloc (.cells (bl (rQ wd bits sums h)) 23)) (qXb (y:=List.map u8 (zG 32 0)) (by simp) (c:=bl (zG 32 0)) (by simp) (d:=rQ wd bits sums h) D32 _) ?_;simp -implicitDefEqProofs only[go_sem,jF];refine qQg ⟨v15,w15,hr,?_⟩;simp -implicitDefEqProofs only[go_sem,jF,q16,c1];exact⟨256 - (h+1),by omega,hI⟩
    | true =>
     rw[hb]at hm;obtain⟨hpl,hps,_⟩:=Wit.gs_at hsl hh2 hb;have hD:rQ wd bits sums h=sums.getD (kA bits h 0).length []:=by unfold rQ;rw[if_neg (by rw[hb];decide)]
     have hs13:=((hsv.fr0 (f9.trans f911)).fr fi fun b hb _ hF=>by have:=(hsb b hb).2;omega).fr0 f13;obtain⟨sb,so,sc,rfl,_,_⟩:=hs13.pos (by omega);have rs0:=hs13.get (P:=prog) agg23 sz23 hpl;rw[← hD]at rs0;have y5:(0:Int)≤((kA bits h 0).length:Int)∧((kA bits h 0).length:Int)<((sums.length:Nat):Int):=by omega
     have hpo2:=Wit.poss_le bits h 0;have c2:IntKind.i64.wrap (((kA bits h 0).length:Int)+1)=(((kA bits h 0).length+1:Nat):Int):=qXc (b:=1);have rsv:rdO prog 94 W13 w7.heap.size 34=some _:=rd_one (A:=.bool a.isSome::pv::bits.map u8) (C:=[]) agg94 kp13 (by simp[hbl]);have q14:=wr_d sz23 k13 (qQp wd h) D32;have kd14:=qQf (o:=.cells (bl (rQ wd bits sums h)) 23 (0,0)) k13;have f14:Fr (fun b=>b=w12.heap.size) W13 (put W13 w12.heap.size (.cells (bl (rQ wd bits sums h)) 23 (0,0))):=(Fr.refl _ _).put (b:=w12.heap.size) _ fun _=>rfl
     obtain⟨w14,hw14⟩:∃ w14,w14=put W13 w12.heap.size (.cells (bl (rQ wd bits sums h)) 23 (0,0)):=⟨_,rfl⟩
     rw[← hw14]at q14 kd14 f14;obtain⟨rt,rd',v15,w15,w16,hr,q16,hI⟩:=push w14 f14 kd14;rw[hps]at hI;simp -implicitDefEqProofs only[go_sem,jF,d5,y3,and_self,if_true,iTn,rdn,jM,qQj,q13,n8,a1,a2,a4,n2',y4,jH,rbit,hm,rsv,y5,rs0,q14,c2];simp -implicitDefEqProofs only[go_sem,jF,rt,rd'];refine qQl (v:=.slice (some ⟨w14.heap.size,0,.none⟩) 1 1) (w':=w14.alloc (.cells (bl (rQ wd bits sums h)) 23)) (qXb (y:=List.map u8 (zG 32 0)) (by simp) (c:=bl (zG 32 0)) (by simp) (d:=rQ wd bits sums h) D32 _) ?_;simp -implicitDefEqProofs only[go_sem,jF];refine qQg ⟨v15,w15,hr,?_⟩;simp -implicitDefEqProofs only[go_sem,jF,q16,c1];exact⟨256 - (h+1),by omega,hI⟩
   ·have d5:=dFo ((h:Int)<256)
    obtain rfl:h=256:=by omega
    rw[zF (by rw[qXq];exact xP _)]at hN;have hxs:rdO prog 149 w12 w9.heap.size 0=some (.agg (slC k a.isSome v nv)):=qXz agg149 (by simp[slL_len _ _ _ hk32,sz149]) kx;have hS12:=hS.fr0 fwi;have hnvo:one nv=true:=by obtain⟨a,c,rfl,_⟩:=hN.rd.slice;rfl
    have hv12:=(hv.fr0 (f69.trans f911)).frn fi fun hn b hb hF=>by have:=hv.blkn hn hb;have:=f69.size;omega
    have hll:ls.length≤2 ^ 20:=by
     have:=congrArg List.length hkeys;rw[zU,lTk]at this;omega
    obtain⟨v8,w8,hr8,X8,f8,_⟩:=hS12.push (f4c) (s:=(k,(a,rX wd bits sums))) (row:=slL k a.isSome v nv) ⟨v,nv,rfl,ho,hnvo,hv12,hN.rd,hk32,fun hn b hb h=>by have:=hvb b hb;have:=(hS.lt h).2;omega,fun hn b hb h=>by have:=hNb b hb;have:=(hS.lt h).2;omega⟩ hll;simp -implicitDefEqProofs only[go_sem,jF,d5,hxs];refine qQl (v:=.slice (some ⟨w12.heap.size,0,.none⟩) 1 1) (w':=w12.alloc (.cells (slC k a.isSome v nv) 149)) (qKh (K:=35) (by decide) (by decide) (by simp[]) (by simp[]) (xs:=slC k a.isSome v nv) (by simp[slL_len _ _ _ hk32]) _) ?_;simp -implicitDefEqProofs only[go_sem,jF];refine qQg ⟨v8,w8,hr8,?_⟩;simp -implicitDefEqProofs only[go_sem,jF,ci];exact⟨ks.length - (i+1),by omega,i+1,v8,ls++[(k,(a,rX wd bits sums))],rfl,by omega,rfl,X8,by rw[List.map_append,hkeys,htk];rfl,hsg,f8⟩
 ·have d4:=dFo ((i:Int)<((ks.length:Nat):Int))
  obtain rfl:i=ks.length:=by omega
  rw[zC (xP _),zC (Nat.le_of_eq hn.symm)]at hsg;have hsg:Except.ok ls=rO wd root ks raws []:=hsg;rw[zF (xP _)]at hkeys;have hall:=Wit.sgs_all hk.1 hn hsg.symm hperm;rw[← hsg];clear hsg;obtain⟨la,lc,rfl,_⟩:=n2.rd.slice;simp -implicitDefEqProofs only[go_sem,jF,gLa,gLz,d4];have hls:ls.length=ks.length:=by rw[← hkeys];simp
  have hkn:(ls.map (·.1)).Nodup:=by rw[hkeys];exact hnd
  have hlin:∀ k ∈ l,k ∈ ls.map (·.1):=fun k hk'=>by rw[hkeys];exact hperm.mem_iff.1 hk'
  obtain⟨aa,ac,hav,_⟩:=hS.rd.slice;refine loopD [0,5,10,12,13,23,24] (gsI w wd w0.heap.size (.slice la l.length lc) ev av l ls) l.length ⟨0,_,rfl,by omega,rfl,SlX.nil _ _,Fr.refl _ _⟩ ?_;rintro _ vs w5 g ⟨i,bv,rfl,hi,rfl,hB,f5⟩;have f05:=f0w.trans f5
  by_cases hil:i<l.length
  ·have d5:=dTo ((i:Int)<((l.length:Nat):Int))
   have y5:=iBd (i:=i) (n:=l.length);have c5:=iSu (i:=i);simp -implicitDefEqProofs only[go_sem,jF,gLa,gLz,d5];refine loopD [0,5,10,12,13,23,24,25] (gtI w wd w0.heap.size (.slice la l.length lc) ev av ((l.take i).map fun k=>(k,rP ls k)) (l.getD i []) ls i) ls.length ⟨0,bv,rfl,by omega,rfl,by rw[List.take_zero,sJ,List.append_nil];exact hB,f5⟩ ?_;rintro _ vs w6 g ⟨j,bv2,rfl,hj,rfl,hB2,f6⟩;have f06:=f0w.trans f6;subst hav
   by_cases hjl:j<ls.length
   ·have d6:=dTo ((j:Int)<((ls.length:Nat):Int))
    have y6:=iBd (i:=j) (n:=ls.length);have c6:=iSu (i:=j);obtain⟨ab,ao,ac',vv,nv,e1,ho,hno,hv,hnn,hk32,hrd⟩:=hS.rd.at hjl;cases e1;obtain⟨_,rK,_⟩:=hrd w6 f6;have fd6:No w6 w6.drew:=(Fr.refl _ _).drew;have f6d:=f6.trans fd6;obtain⟨rS,rKd,_⟩:=hrd w6.drew f6d;have hB2:=hB2.fr0 fd6;have n26:=n2.rd.fr0 (f4.trans (fw.trans f6));obtain⟨lb,lo,lc',e2,_⟩:=n26.pos (show 0<l.length by omega);cases e2;have rL:=n26.get (P:=prog) agg34 sz34 hil;have rLd:=(n26.fr0 fd6).get (P:=prog) agg34 sz34 hil;have hkl32:(l.getD i []).length=32:=l32.getD hil;have eqk:=eqKey hk32 hkl32;have htj:ls.take (j+1)=ls.take j++[ls[j]]:=tSg hjl
    by_cases hkk:ls[j].1=l.getD i []
    ·have hb:(ls[j].1 == l.getD i [])=true:=by rw[beq_iff_eq];exact hkk
     simp -implicitDefEqProofs only[go_sem,jF,jB,gLa,gLz,y6,y5,and_self,decide_true,if_true,iTn,Nat.add_zero,rKd,rLd,eqk,hb,rS];refine qQl (v:=.slice (some ⟨w6.drew.heap.size,0,.none⟩) 1 1) (w':=w6.drew.alloc (.cells (slC ls[j].1 ls[j].2.1.isSome vv nv) 149)) (qKh (K:=35) (by decide) (by decide) (by simp[]) (by simp[]) (xs:=slC ls[j].1 ls[j].2.1.isSome vv nv) (by simp[slL_len _ _ _ hk32]) _) ?_
     have hlp:((l.take i).map (fun k=>(k,rP ls k))++(ls.take j).filter (fun p=>p.1 == l.getD i [])).length≤2 ^ 20:=by
      have:=List.length_filter_le (fun p:Bs × rR=>p.1 == l.getD i []) (ls.take j);rw[lAp,zU,lTk];rw[lTk]at this;omega
     obtain⟨v8,w8,hr8,X8,f8,_⟩:=hB2.push f6d (s:=ls[j]) (row:=slL ls[j].1 ls[j].2.1.isSome vv nv) ⟨vv,nv,rfl,ho,hno,hv.fr0 f6d,hnn.fr0 f6d,hk32,fun hn b hb h=>by have:=hv.blk0 hn hb;have:=(hB2.lt h).1;omega,fun hn b hb h=>by have:=hnn.blk2 hn hb;have:=(hB2.lt h).1;omega⟩ hlp;simp -implicitDefEqProofs only[go_sem,jF];refine qQg ⟨v8,w8,hr8,?_⟩;simp -implicitDefEqProofs only[go_sem,jF,c6];exact⟨ls.length - (j+1),by omega,j+1,v8,rfl,by omega,rfl,by rw[htj,sV,sZ,if_pos hb,sJ,← List.append_assoc];exact X8,f8⟩
    ·have hb:(ls[j].1 == l.getD i [])=false:=by rw[bFn];exact hkk
     simp -implicitDefEqProofs only[go_sem,jF,jB,gLa,gLz,y6,y5,and_self,decide_true,if_true,iTn,Nat.add_zero,rKd,rLd,eqk,hb,c6];exact⟨ls.length - (j+1),by omega,j+1,bv2,rfl,by omega,rfl,by rw[htj,sV,sZ,if_neg (by rw[hb];decide),sJ,List.append_nil];exact hB2,f6d⟩
   ·have d6:=dFo ((j:Int)<((ls.length:Nat):Int))
    obtain rfl:j=ls.length:=by omega
    rw[zF (xP _)]at hB2;have hkm:l.getD i [] ∈ l:=by rw[qQi _ hil];exact vA _
    have htk:l.take (i+1)=l.take i++[l.getD i []]:=by rw[tSg hil,qQi _ hil]
    rw[filt hkn (hlin _ hkm)]at hB2;simp -implicitDefEqProofs only[go_sem,jF,gLa,gLz,d6,c5];exact⟨l.length - (i+1),by omega,i+1,bv2,rfl,by omega,rfl,by rw[htk,List.map_append];exact hB2,f6⟩
  ·have d5:=dFo ((i:Int)<((l.length:Nat):Int))
   obtain rfl:i=l.length:=by omega
   rw[zF (xP _)]at hB;obtain⟨ba,bc,rfl,_⟩:=hB.rd.slice;have hml:(l.map fun k=>(k,rP ls k)).length=l.length:=zU _;have hmk:(l.map fun k=>(k,rP ls k)).map (·.1)=l:=by rw[List.map_map];exact List.map_id' l
   by_cases h0:l=[]
   ·subst h0
    have d7:(((([].map fun k=>(k,rP ls k)).length:Nat):Int) == 0)=true:=rfl;simp -implicitDefEqProofs only[go_sem,jF,gLa,gLz,d5];exact⟨f05,_,rfl,NwB.nil _ _⟩
   have hl0:0<l.length:=List.length_pos_iff.2 h0;have d7:((((l.map fun k=>(k,rP ls k)).length:Nat):Int) == 0)=false:=by rw[hml,bFn];omega
   obtain⟨gok,gkeys,_,_⟩:=Wit.grow_ok (n:=l.length) (top:=256) asc l32 hl0 (xP _) (by rw[jQ];exact sY l) (xP _) hall;have hgu:=Wit.grow_under (root:=root) asc l32 hl0 hall;have htl:=txt_len wd gok;rw[gkeys]at htl;rw[if_neg h0]
   have hcm:=composed wd (rP ls) l.length w5 (top:=256) (ne.rd.fr0 (fw.trans f5)) hB.rd (by rw[hmk];exact asc) (by rw[hmk];exact l32) (fun p hp=>by
    obtain⟨k,hk',rfl⟩:=List.mem_map.1 hp
    exact⟨rfl,hall k hk'⟩) (by rw[hml];exact hl0) (by rw[hml];exact xP _) hl64 (by rw[hmk,jQ];exact sY l) (xP _)
   rw[hmk]at hcm;generalize Wit.grow (rP ls) l.length l 256=t at *;simp -implicitDefEqProofs only[go_sem,jF,gLa,gLz,d5,d7];refine qQa pl83 (hcm.mono ?_);rintro rv w6 ⟨n6,f6⟩;have f06:=f05.trans f6;have rr6:=rr w6 ((f1w.trans f5).trans f6);simp -implicitDefEqProofs only[go_sem,jF,rr6];refine qQa pl73 ((holds w6 (ht.no f06) hWn (by omega) hroot (n2.rd.fr0 (((f4.trans fw).trans f5).trans f6)) n6.by asc hl64 (by omega)).mono ?_);rintro r w7 ⟨f7,h7⟩;have f07:=f06.trans f7;rw[hgu]at h7
   by_cases hd:Wit.dig wd Wit.asIs t=root
   ·rw[if_pos hd]at h7 ⊢
    obtain⟨wb,rfl,_⟩:=h7;simp -implicitDefEqProofs only[go_sem,jF,gLa,gLz,gLs,bNe];exact⟨f07,rv,rfl,(n6.fr0 f7).back f05.size⟩
   ·rw[if_neg hd]at h7 ⊢
    obtain rfl:r=_:=h7;have he:((131:Int) != 0)=true:=rfl;simp -implicitDefEqProofs only[go_sem,jF,gLa,gLz,gLs,he];exact⟨f07,trivial⟩
end R
theorem app_keep {P:Program}{ts:Array TypeId}{e sz by':Nat}{z:Value}(ht:AppT P ts e sz by' z){n:Nat}{cs:List Value}(hv:Nw w0 w e sz v n cs)
  {m:Nat} {xs:Array Value} (hxs:xs.size=m*sz) (hone:xs.toList.all one=true) (hsz0:0<sz)
  (hbd:∀ cap,n≤cap→cap<n+m→xG (n+m) cap*by'≤2 ^ 48) (hbd2:n+m≤9223372036854775807) (f:w0.heap.size≤w.heap.size) :
  ∃ v' w',(qN ts 0 #[v,.slice (some ⟨w.heap.size,0,none⟩) m m]).run P (w.alloc (.cells xs e))=.ok v' w'∧Nw w0 w' e sz v' (n+m) (cs++xs.toList)∧Nw w0 w' e sz v n cs∧Fr (fun b=>qQb v=some b) w w' ∧
   ∀ b,qQb v'=some b→qQb v=some b∨w.heap.size≤b:=by
 obtain⟨v',w',hr,h1,h2,h3⟩:=qJk ht hv hxs hone hsz0 hbd hbd2 f;refine⟨v',w',hr,h1,?_,h2,h3⟩;have hv0:=hv;obtain⟨ho,hnew⟩:=hv
 rcases ho with ⟨rfl,rfl,rfl⟩ | ⟨b,o,cap,c,rfl,h,hc,hn,hl,hat⟩
 ·exact Nw.nil _ _ _ _
 obtain⟨⟨t,t',h0,h1',hs,hi,hu'⟩,hsz,hby,hz,hzs⟩:=ht;obtain⟨d',hd'⟩:=Option.isSome_iff_exists.1 hu'
 have hne:∀ k,d'≠.int k:=fun k e=>by
  subst e;unfold intO at hi;rw[hd']at hi;cases hi
 have hnl:xs.toList.length=m*sz:=by rw[Array.length_toList,hxs]
 have hblk:(w.alloc (.cells xs e)).heap[b]?=some (.cells c e (0,0)):=(qXu _ _ (qQh h)).trans h
 have hnw:∀ u:World,u.heap=(w.alloc (.cells xs e)).heap→(xU sz m (.slice (some ⟨w.heap.size,0,none⟩) m m)).run P u=.ok xs.toList.toArray u:=fun u hu=>by
  have:=qZm (P:=P) (w:=u) (b:=w.heap.size) (o:=0) (n:=m*sz) (by rw[hu];exact qQc _ _) (by omega);simp only[xU,this]
  congr 1
  apply Array.toList_inj.1;rw[Nat.zero_add,Array.extract_eq_self_of_le (by omega)]
 by_cases hfit:n+m≤cap
 ·have hms:=xM sz hfit
  rw[Nat.add_mul]at hms;have hcap:o+n*sz+xs.toList.length≤c.size:=by rw[hnl];omega
  have hst:=qZq (P:=P) xs.toList (w.alloc (.cells xs e)) b (o+n*sz) 0 c e hblk (by simpa using hcap) hone;have hrun:=run_app_fit (P:=P) h0 h1' hs hd' hne hsz (w:=w.alloc (.cells xs e)) (b:=b) (o:=o) (n:=n) (cap:=cap) (m:=m) (xc:=m) (xa:=some ⟨w.heap.size,0,none⟩) hfit (hnw _ rfl) hst;rw[hrun]at hr;cases hr;refine⟨.inr ⟨b,o,cap,_,rfl,qXt _ (qQh hblk),by rw[qXn];exact hc,hn,hl,fun i hi=>?_⟩,hnew⟩;rw[qZo,if_neg (by omega)];exact hat i hi
 ·have hinfo:∃ i, P.info? e=some i∧i.bytes=by':=by
   unfold byO at hby
   cases hi:P.info? e with
   | none=>simp[hi]at hby
   | some i=>exact⟨i,rfl,by simpa [hi] using hby⟩
  obtain⟨i,hi1,hi2⟩:=hinfo;have hb2:xG (n+m) cap*i.bytes≤2 ^ 48:=by rw[hi2];exact hbd cap hn (by omega)
  have hmax:IntKind.i64.max=9223372036854775807:=by decide
  have hold:∀ u:World,u.heap=(w.alloc (.cells xs e)).heap→(xU sz n (.slice (some ⟨b,o,none⟩) n cap)).run P u=.ok cs.toArray u:=fun u hu=>by
   have hle:o+n*sz≤c.size:=by have:=xM sz hn;omega
   have:=qZm (P:=P) (w:=u) (b:=b) (o:=o) (n:=n*sz) (by rw[hu];exact hblk) hle;simp only[xU,this]
   congr 1
   apply Array.toList_inj.1;exact qJn hl hle hat
  obtain⟨nc,hnc,hrun⟩:=run_app_grow (P:=P) h0 h1' hs hd' hne hsz hi1 hz (w:=w.alloc (.cells xs e)) (n:=n) (cap:=cap) (m:=m) (xc:=m) (ba:=some ⟨b,o,none⟩) (xa:=some ⟨w.heap.size,0,none⟩) hfit (by rw[hmax];omega) hb2 hold hnw;rw[hrun]at hr;cases hr;exact hv0.fr0 ((((Fr.refl _ w).alloc _).drew).alloc _)
theorem Pl.wi {w0 w w':World}{ks ts:List Bs}(h:Pl w0 w pb kq iv av qs ks ts)(k:Fr (fun b=>qQb iv=some b) w w')(hi:Nw w0 w' 25 1 iv ts.length (List.zipWith (fun q (t:Bs)=>tv q t.length) qs ts)):Pl w0 w' pb kq iv av qs ks ts :=
 ⟨k.at h.cell fun e=>h.ia _ e (by simp),h.new,h.key.fr k fun b hb e=>h.ia _ e (by simp only[tv,qQb,oSi]at hb;simp[hb]),h.len,hi,h.all.fr k fun b hb e=>h.ii _ e hb,
  fun i a b=>(h.txt i a b).fr k fun c hc e=>h.ia _ e (by simp only[tv,qQb,oSi]at hc;subst hc;simp[List.mem_map];right;right;exact⟨_,_,vA a⟩),h.nd,h.ia,h.aa,h.ii⟩
abbrev Beh:Bs:=[98,101,104,105,110,100]
theorem gatherP_len {wd:Int}{root:Bs}{bs:Bs}(hk:All32 ks)(h:rE wd root ks raws=.ok bs):bs.length≤2 ^ 30:=by
 unfold rE at h;split at h
 ·cases h
 ·rename_i l hs
  obtain⟨hse,_,_⟩:=Wit.sortW_ok hs;obtain⟨asc,l32,hlen,hl64,hperm⟩:=Wit.sortE_ok hk hse;split at h
  ·cases h
  ·rename_i hn
   have hn:ks.length=raws.length:=Decidable.not_not.1 hn;split at h
   ·cases h
   ·rename_i s hsg
    split at h
    ·cases h;exact Nat.zero_le _
    ·rename_i h0
     have hl0:0<l.length:=List.length_pos_iff.2 h0;split at h
     ·cases h
      obtain⟨g1,g2,_⟩:=Wit.grow_ok (n:=l.length) (top:=256) asc l32 hl0 (xP _) (by rw[jQ];exact sY l) (xP _) (Wit.sgs_all hk hn hsg hperm);have:=txt_len wd g1;rw[g2]at this;omega
     ·cases h
def twI (wt:World)(wd:Int)(pb rb:Nat)(kv tsv inv rv:Value)(e:Int)(kq2v:Value)(ts:List Bs)(n:Nat)(vs:List Value)(w:World):Prop :=
 ∃ (i:Nat) (tv':Value) (vals:List Value),vs=[.int .i64 wd,pt pb 0,kv,tsv,pt rb 0,inv,rv,.int .i64 e,kq2v,tv',.int .i64 (i:Nat)]∧i≤ts.length∧n=ts.length - i∧NwT wt w tv' vals (ts.take i)∧No wt w
theorem gathered (w0 w1:World)(ht:Tabs w1)(hw01:w0.heap.size≤w1.heap.size)(wd:Int){root:Bs}(hroot:root.length=32){ks ts:List Bs}(h:Pl w0 w1 pb kq iv av qs ks ts)(h5:5≤w0.heap.size)(hk:RdD w1 kv ks)(hkb:0<ks.length→∀ b, qQb kv=some b→qQb iv≠some b)(hts:TsA w1 tsv ts fun b=>qQb iv=some b)(hl:ks.length≤2 ^ 42)(htl:∀ t ∈ ts, t.length≤2 ^ 47)(htn:ts.length≤6000000000000) :
  Fn prog 17 #[.int .i64 wd,dg root,pt pb 0,kv,tsv] w1 fun r w'=>r=.bool true∧Pl w0 w' pb kq iv av qs ks ts∧Fr (fun b=>qQb iv=some b) w1 w':=by
 refine go17 (by simp) ?_;obtain⟨W,hW,f1,k1,s1⟩:=qQs w1 (bl root) 23;obtain⟨ta,tc,rfl⟩:=hts.slice;have hW1:=h.fr0 f1;have rc:=qQo (P:=prog) hW1.cell;simp -implicitDefEqProofs only[go_sem,jF,vJ,gLa,gLz,gLs,Tryz.f17,jM,hW,rc,qQk];refine qQl (v:=.slice (some ⟨W.heap.size,0,.none⟩) 6 6) (w':=W.alloc (.cells (bl Beh) 5)) rfl ?_;simp -implicitDefEqProofs only[go_sem];obtain⟨w2,hcv,f2,yb,s2⟩:=text_new (P:=prog) slc25 int5 W Beh;refine qQg ⟨_,w2,hcv,?_⟩;have yb:By w2 (.slice (some ⟨W.heap.size,0,.none⟩) 6 6) Beh:=yb;have hbl:∀ b,qQb (.slice (some ⟨W.heap.size,0,.none⟩) 6 6)=some b→w1.heap.size≤b:=fun b hb=>by simp only[qQb,oSi]at hb;omega
 show _;generalize (some ⟨W.heap.size,0,.none⟩:Option Addr)=ba at *;have hob:one (.slice ba 6 6)=true:=rfl;have f12:=f1.trans f2;have P2:=h.fr0 f12;have hpbl:=qQh h.cell;have hivb:∀ b,qQb iv=some b→b<w1.heap.size:=fun b hb=>h.inn.own.lt hb;have hzl:(List.zipWith (fun q (t:Bs)=>tv q t.length) qs ts).length=ts.length:=by rw[List.length_zipWith,h.len,Nat.min_self]
 simp -implicitDefEqProofs only[go_sem];refine qQl (v:=.slice (some ⟨w2.heap.size,0,.none⟩) 1 1) (w':=w2.alloc (.cells #[.slice ba 6 6] 25)) rfl ?_;obtain⟨v3,w3,hr3,n3,i3,g3,m3⟩:=app_keep (P:=prog) app37_37 P2.inn (m:=1) (xs:=#[.slice ba 6 6]) rfl (by simp[hob]) (by decide) (bd_one (by omega)) (by omega) (by have:=f12.size;omega);simp -implicitDefEqProofs only[go_sem,jF];refine qQg ⟨v3,w3,hr3,?_⟩;have P3:=P2.wi g3 i3;have g13:Fr (fun b=>qQb iv=some b) w1 w3:=(f12.mono fun _ _ h=>h.elim).trans g3;have ht3:Tabs w3:=ht.fr g13 fun b hb h=>by have:=h5;have:=(P2.inn.new b h);omega
 have k13:=g3.at (f2.at k1 id) fun h=>by have:=hivb _ h;omega
 have rr3:=rd_d agg23 sz23 k13 hroot;have yb3:=yb.fr g3 fun b hb _ h=>by have:=hbl b hb;have:=hivb b h;omega
 obtain⟨va,vc,rfl,hvc⟩:∃ a c,v3=.slice a (ts.length+1) c∧ts.length+1≤c:=by obtain⟨_,a,c,e,h,_⟩:=n3.rd;exact⟨a,c,e,h⟩
 have rc3:=qQo (P:=prog) P3.cell;have rc3d:∀ t' o,rdO prog t' w3.drew pb o=_:=rc3;have rr3d:rdO prog 23 w3.drew w1.heap.size 0=_:=rr3;have fd3:No w3 w3.drew:=(Fr.refl _ _).drew
 have cn:IntKind.i64.wrap (((ts.length+1:Nat):Int) - 1)=((ts.length:Nat):Int):=by
  have:((ts.length+1:Nat):Int) - 1=((ts.length:Nat):Int):=by omega
  rw[this];exact i64n
 have hcut:=slc_hi (P:=prog) slc37 arr37 sz25 (a:=va) (n:=ts.length+1) (cap:=vc) (l:=ts.length) (by omega) hvc
 have hTs:TsA w3.drew (V.cutV 1 va vc 0 ts.length) ts fun _=>False:=by
  have hcr:=Rd.cutV (n3.fr0 fd3).rd (Nat.zero_le ts.length) (show ts.length≤ts.length+1 by omega);rw[Nat.zero_mul,List.drop_zero,Nat.sub_zero,jH,List.take_left' hzl]at hcr;refine⟨_,hzl,hcr,fun _ _ _ h=>h,fun i a b=>⟨?_,fun _ _ _ h=>h⟩⟩;have hiq:i<qs.length:=by rw[h.len];exact b
  rw[List.getElem_zipWith];exact ((P3.fr0 fd3).txt i hiq b).by.pre
 have hrl:∀ r ∈ ts,r.length≤2 ^ 50:=fun r hr=>by have:=htl r hr;omega
 simp -implicitDefEqProofs only[go_sem,jF,gLa,gLz,rr3d,rc3d,qQk,cn,hcut];refine qQa pl34 ((V.gather w3.drew (ht3.no fd3) wd hroot ((P3.fr0 fd3).keys) hTs hrl).mono ?_);intro r w4 h4;obtain⟨f4,v4,e4,rfl,he4,a4⟩:=h4.both;have f34:=fd3.trans f4;have g14:Fr (fun b=>qQb iv=some b) w1 w4:=g13.trans (f34.mono fun _ _ h=>h.elim)
 have hk4:RdD w4 kv ks:=by
  by_cases h0:0<ks.length
  ·exact hk.fr g14 fun b hb _ h=>hkb h0 b hb h
  ·have:ks=[]:=List.eq_nil_of_length_eq_zero (by omega)
   subst this;obtain⟨a,cap,rfl,hc⟩:=hk.slice;exact⟨hk.1,by obtain⟨_,hl,a',c',e,hcap,hat⟩:=id hk;exact⟨hl,a',c',e,hcap,fun h=>absurd h (by simp)⟩⟩
 simp -implicitDefEqProofs only[go_sem,jF,gLa,gLz,gLs];refine qQa pl29 ((keysOf w4 hk4 hl).mono ?_);rintro _ w5 ⟨f5,kq2,rfl,n5⟩;have g15:=g14.trans (f5.mono fun _ _ h=>h.elim);have hts5:=hts.fr g15 fun _ h=>h;simp -implicitDefEqProofs only[go_sem,jF,gLa,gLz,gLs];refine loopD [0,2,3,4,6,11,12,13,14,16,17] (twI w5 wd pb w1.heap.size kv (.slice ta ts.length tc) (.slice va (ts.length+1) vc) v4 e4 (tv kq2 ks.length) ts) ts.length ⟨0,_,[],rfl,by omega,rfl,⟨Nw.nil _ _ _ _,rfl,fun i h=>absurd h (by simp)⟩,Fr.refl _ _⟩ ?_;rintro _ vs w6 g ⟨i,tv',vals,rfl,hi,rfl,hT,f6⟩;have g16:=g15.trans (f6.mono fun _ _ h=>h.elim)
 by_cases hlt:i<ts.length
 ·obtain⟨tb,to,tc',xv,e1,hx,_,hxr⟩:=hts5.at hlt
  cases e1;have d1:=dTo ((i:Int)<((ts.length:Nat):Int));have c1:=iSu (i:=i);have y1:=iBd (i:=i) (n:=ts.length);have rx:=hxr w6 f6;have htt:(ts.getD i []).length≤2 ^ 47:=by rw[qQi _ hlt];exact htl _ (vA _)
  have hst:ts.take (i+1)=ts.take i++[ts.getD i []]:=by rw[tSg hlt,qQi _ hlt]
  simp -implicitDefEqProofs only[go_sem,jF,gLa,gLz,y1,and_self,decide_true,if_true,iTn,jH,rx];refine qQa pl22 ((V.copied w6 (hx.fr0 f6) htt).mono ?_);rintro v7 w7 ⟨n7,f7⟩;have f57:=f6.trans f7;obtain⟨a7,c7,rfl⟩:=n7.slice;simp -implicitDefEqProofs only[go_sem];refine qQl (v:=.slice (some ⟨w7.heap.size,0,.none⟩) 1 1) (w':=w7.alloc (.cells #[.slice a7 (ts.getD i []).length c7] 25)) rfl ?_;obtain⟨v8,w8,hr8,T8,g8,m8⟩:=(hT.fr0 f7).push f57.size (n7.back f6.size) (fun b hb h=>by have:=(n7.lt hb).1;have:=hT.1.own.lt h;omega) (by rw[lTk];omega);rw[← hst]at T8;simp -implicitDefEqProofs only[go_sem,jF];refine qQg ⟨v8,w8,hr8,?_⟩;simp -implicitDefEqProofs only[go_sem,jF,c1];exact⟨ts.length - (i+1),by omega,i+1,v8,_,rfl,by omega,rfl,T8,f57.trans' g8 fun b hb h=>by have:=hT.1.new b h;omega⟩
 ·have d1:=dFo ((i:Int)<((ts.length:Nat):Int))
  obtain rfl:i=ts.length:=by omega
  rw[List.take_length]at hT;have f46:=f5.trans f6;have f36:=f34.trans f46;have rr6:=rd_d agg23 sz23 (f36.at k13 id) hroot;have ht6:=ht3.no f36;simp -implicitDefEqProofs only[go_sem,jF,gLa,gLz,d1,rr6];refine qQa pl41 ((R.gatherR w6 ht6 wd hroot (n5.rd.pre.fr0 f6) hT.ts htl).mono ?_);intro r w7 h7;obtain⟨f7,v7,e7,rfl,he7,a7⟩:=h7.both;have hee:(e4 == e7)=true:=by rw[he4,he7];simp
  have hlen:(listOf (rE wd root ks ts)).length≤2 ^ 50:=by
   cases hv:rE wd root ks ts with
   | error e=>show ([]:List Byte).length≤2 ^ 50;simp
   | ok bs=>have:=gatherP_len hk.1 hv;show bs.length≤2 ^ 50;omega
  generalize (listOf (rE wd root ks ts))=an at *;clear he4 he7 h4 h7;have f47:=f46.trans f7;have f37:=f34.trans f47;simp -implicitDefEqProofs only[go_sem,jF,gLa,gLz,gLs,hee,bSe];refine qQa pl26 ((same w7 (a4.fr0 f47) a7 hlen).mono ?_);rintro _ w8 ⟨rfl,f8⟩;have d7:decide (an=an)=true:=by simp
  have c2:IntKind.i64.wrap (((ts.length:Nat):Int)+1)=((ts.length+1:Nat):Int):=qXc (b:=1);have d8:((((ts.length+1:Nat)):Int) == ((ts.length+1:Nat):Int))=true:=by simp
  have y2:(0:Int)≤((ts.length:Nat):Int)∧((ts.length:Nat):Int)<((ts.length+1:Nat):Int):=by omega
  have f38:=f37.trans f8
  have hrb:∃ b o,va=some ⟨b,o,.none⟩∧rdO prog 25 w8 b (o+ts.length)=some (.slice ba 6 6):=by
   obtain⟨hl3,a3,c3,e3,hc3,hat3⟩:=(n3.fr0 f38).rd;cases e3;obtain⟨b,o,rfl,hat⟩:=hat3 (by omega);refine⟨b,o,rfl,rd_rc agg25 ?_⟩;rw[hat _ (by omega),jN (by rw[hzl];exact xP _),hzl,jQ];rfl
  obtain⟨b9,o9,rfl,r9⟩:=hrb;simp -implicitDefEqProofs only[go_sem,jF,gLa,gLz,gLs,c2,d8,y2,and_self,decide_true,if_true,iTn,jH,r9,bSe];refine qQl (v:=.slice (some ⟨w8.heap.size,0,.none⟩) 6 6) (w':=w8.alloc (.cells (bl Beh) 5)) rfl ?_;simp -implicitDefEqProofs only[go_sem,jF,gLa,gLz,gLs,bSe];obtain⟨w9,hcv9,f9,y9,_⟩:=text_new (P:=prog) slc25 int5 w8 Beh;refine qQg ⟨_,w9,hcv9,?_⟩;have f39:=f38.trans f9;simp -implicitDefEqProofs only[go_sem,jF,gLa,gLz,gLs,bSe];refine qQa pl26 ((same w9 (yb3.fr0 f39) y9 (by decide)).mono ?_);rintro _ wa ⟨rfl,fa⟩;have f3a:=f39.trans fa;have d9:decide (Beh=Beh)=true:=by simp
  have g1a:Fr (fun b=>qQb iv=some b) w1 wa:=g13.trans (f3a.mono fun _ _ h=>h.elim);have f4a:=((f47.trans f8).trans f9).trans fa;simp -implicitDefEqProofs only[go_sem,jF,gLa,gLz,gLs];refine qQa pl37 ((placesLeft w0 wa (P3.fr0 f3a) (hk4.fr0 f4a) (hts.fr g1a fun _ h=>h) (by omega) (fun t ht'=>by have:=htl t ht';omega) (by omega)).mono ?_);rintro _ wb ⟨rfl,fb⟩;simp -implicitDefEqProofs only[go_sem,jF];exact⟨by simp,(P3.fr0 f3a).fr0 fb,g1a.trans (fb.mono fun _ _ h=>h.elim)⟩
end Go.V
