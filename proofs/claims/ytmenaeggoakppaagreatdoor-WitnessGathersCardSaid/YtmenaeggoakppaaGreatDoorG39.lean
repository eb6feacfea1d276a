/- Helpers. -/
import Derived.Test.YtmenaeggoakppaaGreatDoorG38
import Derived.Test.YtmenaeggoakppaaGreatDoorG37
import Derived.Test.YtmenaeggoakppaaGreatDoorG33
set_option linter.all false
set_option maxRecDepth 100000
set_option maxHeartbeats 8000000
open Bool renaming not_false→xY,not_true→rZ
open Int renaming toNat_zero→vL
open List renaming replicate→zG,size_toArray→vC,drop_drop→vP,getElem_append_left→yM,replicate_zero→rJ
open Nat renaming reduceEqDiff→jF,reduceBEq→jB,mul_one→jH,reduceAdd→vJ,zero_add→z8,sub_self→jQ
open Go.Value renaming cells→jM
open Go.V.Wit renaming decP→kI,poss→kA,gsOf→kO,chk→yO,chunk→kE,ansP→yS
namespace Go.V
open Go.Proofs.Tryz Go.V.Tryz
open Go.Proofs Sha
variable {k:Bs} {wd:Int} {vals:List Value} {i:Nat} {rv v:Value} {w w' w0:World}
namespace C
def heldP (wd:Int)(root k raw:Bs):Except Int (Option Bs × Bs × List Bs) :=
 if wd<1∨32<wd then .error 1
 else match kI raw with
  | none=>.error 120
  | some (a,bits,sums)=>if yO wd (kO bits sums)≠0 then .error (yO wd (kO bits sums)) else if clD wd k a bits sums=root then .ok (a,bits,sums) else .error 131
theorem heldP_err {root k raw:Bs}{e:Int}(h:heldP wd root k raw=.error e):e≠0:=by
 unfold heldP at h;split at h
 ·cases h;decide
 split at h
 ·cases h;decide
 ·split at h
  ·rename_i hc;cases h;exact hc
  ·split at h
   ·cases h
   ·cases h;decide
def thS (w0:World)(cb:Nat)(wd:Int)(k root:Bs)(rv:Value)(p:List Value)(e:Bs)(bv:Value)(raw:Bs):Nat→World→Prop
 | 0,w=>w=w0
 | 1,w=>¬ (wd<1∨32<wd)∧No w0 w
 | 2,w=>¬ (wd<1∨32<wd)∧Fr (fun b=>b=cb) w0 w∧∃ a bits sums vv sv,kI raw=some (a,bits,sums)∧CkP w cb wd k root a bits sums rv vv sv bv e
 | 3,w=>¬ (wd<1∨32<wd)∧Fr (fun b=>b=cb) w0 w∧∃ a bits sums vv sv bv',kI raw=some (a,bits,sums)∧yO wd (kO bits sums)=0∧CkP w cb wd k root a bits sums rv vv sv bv' e∧(bv=.slice .none 0 0∨bv'=bv)
 | _,w=>Fr (fun b=>b=cb) w0 w∧∃ a bits sums vv sv bv' e',heldP wd root k raw=.ok (a,bits,sums)∧CkP w cb wd k root a bits sums rv vv sv bv' e'∧RdD w bv' (empts wd 256)∧(bv=.slice .none 0 0∨bv'=bv)
def thI (w0:World)(cb:Nat)(wd:Int)(k root:Bs)(rv:Value)(p:List Value)(e:Bs)(bv:Value)(raw:Bs)(fsv:Value)(n:Nat)(vs:List Value)(w:World):Prop :=
 ∃ (i:Nat),vs=[fsv,.int .i64 ((4:Nat):Int),.int .i64 (i:Nat)]∧i≤4∧n=4 - i∧thS w0 cb wd k root rv p e bv raw i w
def ThQ (w0:World)(cb:Nat)(wd:Int)(k root:Bs)(rv bv:Value)(raw:Bs)(v:Value)(w':World):Prop:=Fr (fun b=>b=cb) w0 w'∧match heldP wd root k raw with
 | .error e=>v=.int .i64 e
 | .ok (a,bits,sums)=>v=.int .i64 0∧∃ vv sv bv' e',CkP w' cb wd k root a bits sums rv vv sv bv' e'∧RdD w' bv' (empts wd 256)∧(bv=.slice .none 0 0∨bv'=bv)
def fun4 (cb:Nat):Array Value:=#[.func (.func 150) #[pt cb 0] #[],.func (.func 151) #[pt cb 0] #[],.func (.func 152) #[pt cb 0] #[],.func (.func 153) #[pt cb 0] #[]]
theorem through (w0:World)(ht:Tabs w0){cb:Nat}{root:Bs}{p:List Value}{e:Bs}{bv:Value}{raw:Bs}(hC:Ck w0 cb wd k rv root p e bv)(hB:Bl w0 cb wd bv)(hcb:5≤cb)(hr:By w0 rv raw)(hl:raw.length≤2 ^ 50)
  {fb:Nat} (hf:w0.heap[fb]?=some (.cells (fun4 cb) 245 (0,0))) (hne:fb≠cb):Fn prog 149 #[.slice (some ⟨fb,0,.none⟩) 4 4] w0 (ThQ w0 cb wd k root rv bv raw):=by
 refine go149 (by simp) ?_;simp -implicitDefEqProofs only[go_sem,jF,gLa,gLz,Tryz.f149];refine loopD [6,7,8] (thI w0 cb wd k root rv p e bv raw (.slice (some ⟨fb,0,.none⟩) 4 4)) 4 ⟨0,rfl,by omega,rfl,rfl⟩ ?_;rintro _ vs w g ⟨i,rfl,hi,rfl,hS⟩;unfold ThQ;have lf:∀ (w:World) (i:Nat) (v:Value),Fr (fun b=>b=cb) w0 w→(fun4 cb)[i]?=some v→rdO prog 245 w fb i=some v:=fun w i v f h=>rd1 agg245 (f.at hf hne) h;have c0:∀ i:Nat,i<4→IntKind.i64.wrap ((i:Int)+1)=((i+1:Nat):Int):=fun i h=>qXc (b:=1);have cases5:i=0∨i=1∨i=2∨i=3∨i=4:=by omega
 rcases cases5 with rfl | rfl | rfl | rfl | rfl
 ·obtain rfl:w=w0:=hS
  have r1:=lf w 0 _ (Fr.refl _ _) rfl;have d1:decide (((0:Nat):Int)<((4:Nat):Int))=true:=rfl;have y1:(0:Int)≤((0:Nat):Int)∧((0:Nat):Int)<((4:Nat):Int):=by decide
  have c1:=c0 0 (by omega);simp -implicitDefEqProofs only[go_sem,jF,y1,and_self,iTn,r1,decide_true];refine qQa pl150 ((wide w hC).mono ?_);rintro _ w2 ⟨rfl,f2⟩
  by_cases hwd:wd<1∨32<wd
  ·rw[if_pos hwd]
   have he:((1:Int) != 0)=true:=rfl;simp -implicitDefEqProofs only[go_sem,jF,he];have:heldP wd root k raw=.error 1:=by unfold heldP;rw[if_pos hwd]
   rw[this];exact⟨f2.mono fun _ _ h=>h.elim,rfl⟩
  ·rw[if_neg hwd]
   simp -implicitDefEqProofs only[go_sem,jF,bNe,c1];exact⟨4 - (0+1),by omega,0+1,rfl,by omega,rfl,hwd,f2⟩
 ·obtain⟨hwd,fw⟩:=hS
  have r1:=lf w 1 _ (fw.mono fun _ _ h=>h.elim) rfl;have d1:decide (((1:Nat):Int)<((4:Nat):Int))=true:=rfl;have y1:(0:Int)≤((1:Nat):Int)∧((1:Nat):Int)<((4:Nat):Int):=by decide
  have c1:=c0 1 (by omega);simp -implicitDefEqProofs only[go_sem,jF,y1,and_self,iTn,jH,z8,r1,decide_true];refine qQa pl151 ((cread w (hC.fr0 fw) (hB.fr0 fw) hcb (hr.fr0 fw) hl).mono ?_);rintro v w2 ⟨f2,hm⟩;have f02:Fr (fun b=>b=cb) w0 w2:=(fw.mono fun _ _ h=>h.elim).trans f2
  cases hd:kI raw with
  | none =>
   rw[hd]at hm;obtain rfl:v=.int .i64 120:=hm;have he:((120:Int) != 0)=true:=rfl;simp -implicitDefEqProofs only[go_sem,jF,he];have:heldP wd root k raw=.error 120:=by unfold heldP;rw[if_neg hwd,hd]
   rw[this];exact⟨f02,rfl⟩
  | some y =>
   obtain⟨a,bits,sums⟩:=y;rw[hd]at hm;obtain⟨rfl,vv,sv,hP⟩:=hm;simp -implicitDefEqProofs only[go_sem,jF,vJ,bNe,c1];exact⟨4 - (1+1),by omega,1+1,rfl,by omega,rfl,hwd,f02,a,bits,sums,vv,sv,hd,hP⟩
 ·obtain⟨hwd,fw,a,bits,sums,vv,sv,hd,hP⟩:=hS
  have r1:=lf w 2 _ fw rfl;have d1:decide (((2:Nat):Int)<((4:Nat):Int))=true:=rfl;have y1:(0:Int)≤((2:Nat):Int)∧((2:Nat):Int)<((4:Nat):Int):=by decide
  have c1:=c0 2 (by omega)
  obtain⟨W',hW'⟩:∃ n:Nat,wd=n:=⟨wd.toNat,by omega⟩
  simp -implicitDefEqProofs only[go_sem,jF,y1,and_self,iTn,jH,z8,r1,decide_true];refine qQa pl152 ((tidy w (ht.fr fw fun b hb h=>by omega) hP hW' (by omega)).mono ?_);rintro _ w2 ⟨rfl,f2,bv2,hP2,hor⟩
  by_cases hc:yO wd (kO bits sums)=0
  ·have he:(yO wd (kO bits sums) != 0)=false:=by rw[hc];rfl
   simp -implicitDefEqProofs only[go_sem,jF,vJ,he,c1];exact⟨4 - (2+1),by omega,2+1,rfl,by omega,rfl,hwd,fw.trans f2,a,bits,sums,vv,sv,bv2,hd,hc,hP2,hor⟩
  ·have he:(yO wd (kO bits sums) != 0)=true:=by rw[bne_iff_ne];exact hc
   simp -implicitDefEqProofs only[go_sem,jF,he];have:heldP wd root k raw=.error (yO wd (kO bits sums)):=by unfold heldP;rw[if_neg hwd,hd];exact if_pos hc
   rw[this];exact⟨fw.trans f2,rfl⟩
 ·obtain⟨hwd,fw,a,bits,sums,vv,sv,bv1,hd,hc,hP,hor⟩:=hS
  have r1:=lf w 3 _ fw rfl;have d1:decide (((3:Nat):Int)<((4:Nat):Int))=true:=rfl;have y1:(0:Int)≤((3:Nat):Int)∧((3:Nat):Int)<((4:Nat):Int):=by decide
  have c1:=c0 3 (by omega);simp -implicitDefEqProofs only[go_sem,jF,y1,and_self,iTn,jH,z8,r1,decide_true];refine qQa pl153 ((leads w (ht.fr fw fun b hb h=>by omega) hP).mono ?_);rintro _ w2 ⟨rfl,f2,bv2,e2,hP2,hR2,hor2⟩
  have hor3:bv=.slice .none 0 0∨bv2=bv:=by
   rcases hor with h | h
   ·exact .inl h
   ·rcases hor2 with g | g
    ·exact .inl (h.symm.trans g)
    ·exact .inr (g.trans h)
  by_cases hcd:clD wd k a bits sums=root
  ·have:heldP wd root k raw=.ok (a, bits, sums):=by
    unfold heldP;rw[if_neg hwd,hd];show (if _ then _ else _)=_;rw[if_neg (fun h=>h hc),if_pos hcd]
   rw[if_pos hcd];simp -implicitDefEqProofs only[go_sem,jF,vJ,bNe,c1];exact⟨4 - (3+1),by omega,3+1,rfl,by omega,rfl,fw.trans f2,a,bits,sums,vv,sv,bv2,e2,this,hP2,hR2,hor3⟩
  ·have he:((131:Int) != 0)=true:=rfl
   rw[if_neg hcd];simp -implicitDefEqProofs only[go_sem,jF,he]
   have:heldP wd root k raw=.error 131:=by
    unfold heldP;rw[if_neg hwd,hd];show (if _ then _ else _)=_;rw[if_neg (fun h=>h hc),if_neg hcd]
   rw[this];exact⟨fw.trans f2,rfl⟩
 ·obtain⟨fw,a,bits,sums,vv,sv,bv1,e1,hh,hP,hR,hor⟩:=hS
  have d1:decide (((4:Nat):Int)<((4:Nat):Int))=false:=rfl;simp -implicitDefEqProofs only[go_sem,jF,d1];rw[hh];exact⟨fw,vv,sv,bv1,e1,hP,hR,hor⟩
def HdQ (w0:World)(wd:Int)(root k:Bs)(rv bv0:Value)(raw:Bs)(r:Value)(w':World):Prop:=No w0 w'∧match heldP wd root k raw with
 | .error e=>∃ p,r=.tuple #[p,.int .i64 e]
 | .ok (a,bits,sums)=>∃ cb vv sv bv' e',r=.tuple #[pt cb 0,.int .i64 0]∧w0.heap.size≤cb∧CkP w' cb wd k root a bits sums rv vv sv bv' e'∧RdD w' bv' (empts wd 256)∧(bv0=.slice .none 0 0∨bv'=bv0)
theorem held (w0:World)(ht:Tabs w0)(wd:Int){root k:Bs}(hroot:root.length=32)(hk:k.length=32){raw:Bs}(hr:By w0 rv raw)(hl:raw.length≤2 ^ 50){av bv0:Value}
  (ha:av=.slice .none 0 0∧bv0=.slice .none 0 0∨∃ ab ao ac cb0,av=.slice (some ⟨ab,ao,.none⟩) 1 ac∧rdO prog 164 w0 ab ao=some (pt cb0 0)∧(∀ w',No w0 w'→rdO prog 164 w' ab ao=some (pt cb0 0))∧(∀ w',No w0 w'→rdO prog 94 w' cb0 133=some bv0)∧RdD w0 bv0 (empts wd 256)) :
  Fn prog 93 #[.int .i64 wd,dg root,dg k,rv,av] w0 (HdQ w0 wd root k rv bv0 raw):=by
 refine go93 (by simp) ?_;obtain⟨xa,xc,rfl,hxc⟩:=hr.slice;obtain⟨W,hW,f1,k1,k2,s1⟩:=qZa w0 (bl root) 23 (bl k) 34;have rr:=rd_d agg23 sz23 k1 hroot;have rk:=rd_d agg34 sz34 k2 hk;have bld:=bldCk (wd:=wd) (rv:=.slice xa raw.length xc) hk hroot rfl
 obtain⟨p0,hp0⟩:∃ p0,p0=prL false (.slice .none 0 0) (zG 32 0) (.slice .none 0 0):=⟨_,rfl⟩
 have hpl:p0.length=35:=by rw[hp0];exact qXv (by simp)
 rw[← hp0]at bld;have f2:No W (W.alloc (.cells (ckL wd k (.slice xa raw.length xc) root p0 (zG 32 0) (.slice .none 0 0)).toArray 200)):=(Fr.refl _ _).alloc _;have k3:=qQc W (.cells (ckL wd k (.slice xa raw.length xc) root p0 (zG 32 0) (.slice .none 0 0)).toArray 200)
 obtain⟨W2,hW2⟩:∃ W2,W.alloc (.cells (ckL wd k (.slice xa raw.length xc) root p0 (zG 32 0) (.slice .none 0 0)).toArray 200)=W2:=⟨_,rfl⟩
 rw[hW2]at f2 k3
 have hC:Ck W2 W.heap.size wd k (.slice xa raw.length xc) root p0 (zG 32 0) (.slice .none 0 0):=⟨k3,hk,hroot,hpl,by simp⟩
 have h5:5≤w0.heap.size:=ht.size;have f02:=f1.trans f2
 have fin:∀ (w:World) (bv:Value),Ck w W.heap.size wd k (.slice xa raw.length xc) root p0 (zG 32 0) bv→Bl w W.heap.size wd bv→No w0 w→∀ w4,w4=w.alloc (.cells (fun4 W.heap.size) 245)→Fn prog 149 #[.slice (some ⟨w.heap.size,0,.none⟩) 4 4] w4 (ThQ w4 W.heap.size wd k root (.slice xa raw.length xc) bv raw)∧No w0 w4:=fun w bv hC hB fw w4 e=>by
  subst e;have fa:No w (w.alloc (.cells (fun4 W.heap.size) 245)):=(Fr.refl _ _).alloc _;have f4:=fw.trans fa;exact⟨through _ (ht.no f4) (hC.fr0 fa) (hB.fr0 fa) (by omega) (hr.fr0 f4) hl (qQc _ _) (by have:=hC.lt;omega),f4⟩
 have done:∀ (w4 w5:World) (bv v:Value),bv=bv0→No w0 w4→ThQ w4 W.heap.size wd k root (.slice xa raw.length xc) bv raw v w5→∃ e,v=.int .i64 e∧HdQ w0 wd root k (.slice xa raw.length xc) bv0 raw (.tuple #[pt W.heap.size 0,.int .i64 e]) w5:=fun w4 w5 bv v hbv f4 h=>by
  subst hbv;obtain⟨f5,h⟩:=h;have f05:No w0 w5:=f4.trans' f5 fun b hb h=>by omega
  unfold HdQ
  cases hh:heldP wd root k raw with
  | error e =>
   rw[hh]at h;exact⟨e,h,f05,_,rfl⟩
  | ok y =>
   obtain⟨a,bits,sums⟩:=y;rw[hh]at h;obtain⟨rfl,vv,sv,bv',e',hP,hR,hor⟩:=h;exact⟨0,rfl,f05,W.heap.size,vv,sv,bv',e',rfl,by omega,hP,hR,hor⟩
 rcases ha with ⟨rfl,rfl⟩ | ⟨ab,ao,ac,cb0,rfl,_,hap,hab,hbd⟩
 ·have d1:decide (((0:Nat):Int) > 0)=false:=rfl
  have d2:decide ((0:Int) > 0)=false:=rfl;simp -implicitDefEqProofs only[go_sem,jF,vJ,gLa,gLz,Tryz.f93,jM,hW,rr,rk,bld,hW2,d2,Int.natCast_zero];refine qQl (v:=.slice (some ⟨W2.heap.size,0,.none⟩) 4 4) (w':=W2.alloc (.cells (fun4 W.heap.size) 245)) rfl ?_;obtain⟨hth,f4⟩:=fin W2 _ hC (.inl rfl) f02 _ rfl;generalize W2.alloc (.cells (fun4 W.heap.size) 245)=w4 at *;simp -implicitDefEqProofs only[go_sem];refine qQa pl149 (hth.mono ?_);intro v w5 h5;obtain⟨e,rfl,hq⟩:=done w4 w5 _ v rfl f4 h5;simp -implicitDefEqProofs only[go_sem,jF];exact hq
 ·have d1:decide (((1:Nat):Int) > 0)=true:=rfl
  have y1:(0:Int)≤0∧(0:Int)<((1:Nat):Int):=by decide
  have ra:=hap W2 f02;have rb:=hab W2 f02;have bo:one bv0=true:=by obtain⟨b',o,cap,e,_⟩:=hbd.pos (by rw[qQm];omega);rw[e];rfl
  obtain⟨w3,q3,hC3,f3⟩:=hC.putB bo;have f03:No w0 w3:=f02.trans' f3 fun b hb h=>by omega
  have hB3:Bl w3 W.heap.size wd bv0:=.inr ⟨hbd.fr0 f03,fun b hb h=>by
   obtain⟨b',o,cap,e,_,hlt⟩:=hbd.pos (by rw[qQm];omega);rw[e]at hb;simp only[qQb,oSi]at hb
   omega⟩
  simp -implicitDefEqProofs only[go_sem,jF,vJ,gLa,gLz,Tryz.f93,jM,hW,rr,rk,bld,hW2,decide_true,y1,and_self,vL,Nat.zero_mul,ra,rb,q3];refine qQl (v:=.slice (some ⟨w3.heap.size,0,.none⟩) 4 4) (w':=w3.alloc (.cells (fun4 W.heap.size) 245)) rfl ?_;obtain⟨hth,f4⟩:=fin w3 _ hC3 hB3 f03 _ rfl;generalize w3.alloc (.cells (fun4 W.heap.size) 245)=w4 at *;simp -implicitDefEqProofs only[go_sem];refine qQa pl149 (hth.mono ?_);intro v w5 h5;obtain⟨e,rfl,hq⟩:=done w4 w5 _ v rfl f4 h5;simp -implicitDefEqProofs only[go_sem,jF];exact hq
end C
def NwT (w0 w:World)(v:Value)(vals:List Value)(ts:List Bs):Prop:=Nw w0 w 25 1 v ts.length vals∧vals.length=ts.length∧∀ i (h:i<vals.length) (h':i<ts.length),NwB w0 w vals[i] ts[i]∧∀ b,qQb vals[i]=some b→qQb v≠some b
theorem NwT.fr {F:Nat→Prop}{ts:List Bs}(h:NwT w0 w v vals ts)(f:Fr F w w')(h1:∀ b,qQb v=some b→¬ F b)(h2:∀ x ∈ vals,∀ b,qQb x=some b→¬ F b):NwT w0 w' v vals ts :=
 ⟨h.1.fr f h1,h.2.1,fun i a b=>⟨(h.2.2 i a b).1.fr f (h2 _ (List.getElem_mem a)),(h.2.2 i a b).2⟩⟩
theorem NwT.fr0 {ts:List Bs}(h:NwT w0 w v vals ts)(f:No w w'):NwT w0 w' v vals ts:=h.fr f (fun _ _ h=>h) fun _ _ _ _ h=>h
theorem NwT.push {ts:List Bs}(h:NwT w0 w v vals ts)(f:w0.heap.size≤w.heap.size){x:Value}{t:Bs}(hx:NwB w0 w x t)(hap:∀ b, qQb x=some b→qQb v≠some b)(hl:ts.length≤6000000000000) :
  ∃ v' w',(Builtin.append_ #[37,37] 0 #[v,.slice (some ⟨w.heap.size,0,.none⟩) 1 1]).run prog (w.alloc (.cells #[x] 25))=.ok v' w'∧NwT w0 w' v' (vals++[x]) (ts++[t])∧Fr (fun b=>qQb v=some b) w w'∧∀ b,qQb v'=some b→qQb v=some b∨w.heap.size≤b:=by
 obtain⟨h1,h2,h3⟩:=h;have ox:one x=true:=by obtain⟨a,c,rfl⟩:=hx.slice;rfl
 obtain⟨v',w',hr,hown,g,m⟩:=qJk (P:=prog) app37_37 h1 (m:=1) (xs:=#[x]) rfl (by simp[ox]) (by omega) (bd_one (by omega)) (by omega) f;refine⟨v',w',hr,⟨by rw[lAp];exact hown,by simp[h2],fun i a b=>?_⟩,g,m⟩
 by_cases hi:i<vals.length
 ·obtain⟨e1,e2⟩:=h3 i hi (by omega)
  rw[yM hi,yM (by omega)];refine⟨e1.fr g fun b hb h=>e2 b hb h,fun b hb h=>?_⟩
  rcases m b h with h' | h'
  ·exact e2 b hb h'
  ·have:=(e1.lt hb).2;omega
 ·have hi':i=vals.length:=by simp at a;omega
  subst hi';have ev:(vals++[x])[vals.length]'a=x:=by simp
  have et:(ts++[t])[vals.length]'b=t:=by simp[h2]
  rw[ev,et];refine⟨hx.fr g fun b hb h=>hap b hb h,fun b hb h=>?_⟩
  rcases m b h with h' | h'
  ·exact hap b hb h'
  ·have:=(hx.lt hb).2;omega
namespace C
def txH (wd:Int)(k:Bs)(path near:Nat→Bs)(h:Nat):Bs:=qJp wd (sd1 k (path h) (near h) h) (sd2 k (path h) (near h) h)
def lowT (k:Bs):Option Bs→Bs
 | none=>[2]
 | some v=>leafT k v
def txL (wd:Int)(k:Bs)(a:Option Bs)(path near:Nat→Bs)(n:Nat):List Bs:=lowT k a::(List.range n).map (txH wd k path near)
end C
namespace C
def pth (wd:Int)(k:Bs)(a:Option Bs)(bits:Bs)(sums:List Bs)(h:Nat):Bs:=V.climb wd k 0 (Wit.ldig wd k a) ((Wit.nearL wd bits sums).take h)
def txs (wd:Int)(k:Bs)(a:Option Bs)(bits:Bs)(sums:List Bs):List Bs:=txL wd k a (pth wd k a bits sums) (Wit.nearH wd bits sums) 256
end C
section
namespace Wit
def decT (a:Option Bs)(s:Bs):Option (Option Bs × Bs × List Bs) :=
 if s.length<32 then none else if s.length - 32≠32*(poss (s.take 32) 256 0).length then none else some (a,s.take 32,chunk (poss (s.take 32) 256 0).length (s.drop 32))
theorem decP_decT (s:Bs):decP s=if s.length<1 then none else if 1<(s.getD 0 0).toNat then none else (ansP (s.getD 0 0).toNat (s.drop 1)).bind fun p=>decT p.1 p.2:=rfl
end Wit
namespace R
theorem pop_cnt (x:Byte):pop 8 x.toNat=cntN x.toNat:=by
 have:∀ n:Fin 256,pop 8 n.val=cntN n.val:=by decide +kernel
 exact this ⟨x.toNat,x.isLt⟩
theorem pops_poss {bits:Bs}(hb:bits.length=32):pops bits=(kA bits 256 0).length:=by
 have key:∀ n,n≤32→pops (bits.take n)=(kA bits (8*n) 0).length:=by
  intro n
  induction n with
  | zero=>intro _;rfl
  | succ n ih =>
   intro hn;rw[tSg (by omega),pops_snoc,ih (by omega),Wit.poss_byte,pop_cnt,qQi _ (by omega)]
 have:=key 32 (Nat.le_refl _)
 rwa [List.take_of_length_le (by omega)]at this
section
variable {w:World} {b:Nat} {f:Bool} {vv sv:Value} {bits:Bs}
theorem prBit (h:w.heap[b]?=some (.cells (prL f vv bits sv).toArray 122 (0,0)))(hb:bits.length=32)(hi:i<32)(x:Byte):wrO prog 5 w b (2+i) (u8 x)=some (put w b (.cells (prL f vv (bits.set i x) sv).toArray 122 (0,0))):=by
 rw[wr1 (P:=prog) sz5 rfl h (by rw[vC,qXv hb];omega)];have:=prC_set (f:=f) (vv:=vv) (sv:=sv) (bits:=bits) i x;rw[if_pos (by omega)]at this;exact congrArg (fun c=>some (put w b (.cells c 122 (0,0)))) this
theorem prSum (h:w.heap[b]?=some (.cells (prL f vv bits sv).toArray 122 (0,0)))(hb:bits.length=32){sv':Value}(ho:one sv'=true):wrO prog 94 w b 34 sv'=some (put w b (.cells (prL f vv bits sv').toArray 122 (0,0))):=by
 rw[wr1 (P:=prog) sz94 ho h (by rw[vC,qXv hb];omega)];exact congrArg (fun c=>some (put w b (.cells c 122 (0,0)))) (prC_sums hb)
theorem prFlag (h:w.heap[b]?=some (.cells (prL f vv bits sv).toArray 122 (0,0)))(hb:bits.length=32){f':Bool}:wrO prog 4 w b 0 (.bool f')=some (put w b (.cells (prL f' vv bits sv).toArray 122 (0,0))):=by
 rw[wr1 (P:=prog) sz4 rfl h (by rw[vC,qXv hb];omega)];exact congrArg (fun c=>some (put w b (.cells c 122 (0,0)))) prC_flag
theorem prVal (h:w.heap[b]?=some (.cells (prL f vv bits sv).toArray 122 (0,0)))(hb:bits.length=32){vv':Value}(ho:one vv'=true):wrO prog 25 w b 1 vv'=some (put w b (.cells (prL f vv' bits sv).toArray 122 (0,0))):=by
 rw[wr1 (P:=prog) sz25 ho h (by rw[vC,qXv hb];omega)];exact congrArg (fun c=>some (put w b (.cells c 122 (0,0)))) prC_val
theorem prRdSum (h:w.heap[b]?=some (.cells (prL f vv bits sv).toArray 122 (0,0)))(hb:bits.length=32):rdO prog 94 w b 34=some sv :=
 rd_one (A:=.bool f::vv::bits.map u8) (C:=[]) (v:=sv) agg94 (fz:=(0,0)) (e:=122) (by rw[h];simp[prL]) (by simp[hb])
theorem prRdBits (h:w.heap[b]?=some (.cells (prL f vv bits sv).toArray 122 (0,0)))(hb:bits.length=32):rdO prog 22 w b 2=some (dg bits) :=
 rd_mid (A:=[.bool f,vv]) (B:=bits.map u8) (C:=[sv]) agg22 sz22 h (by simp[hb]) (by decide) rfl
theorem prRd (h:w.heap[b]?=some (.cells (prL f vv bits sv).toArray 122 (0,0)))(hb:bits.length=32):rdO prog 122 w b 0=some (.agg (prL f vv bits sv).toArray) :=
 qXz agg122 (by rw[vC,qXv hb];exact sz122) h
end
theorem take_set {l:Bs}{n i:Nat}(h:n≤l.length)(hi:i<n){x:Byte}(hx:x=l.getD i 0):(l.take i++zG (n - i) (0:Byte)).set i x=l.take (i+1)++zG (n - (i+1)) 0:=by
 have h1:(l.take i).length=i:=by rw[lTk];omega
 rw[List.set_append_right _ _ (by omega),h1,jQ,show n - i=(n - (i+1))+1 by omega,List.replicate_succ,List.set_cons_zero,tSg (by omega),hx,qQi _ (by omega),List.append_assoc]
 rfl
theorem bl_set (d:Bs)(i:Nat)(x:Byte):(bl d).setIfInBounds i (.int .u8 (x.toNat:Int))=bl (d.set i x):=by
 apply Array.toList_inj.1;simp[bl,u8,List.map_set]
def dcA (w0:World)(rv:Value)(s:Bs)(x0 x2 x4 x5:Value)(w:World):Prop:=∃ (a:Option Bs) (vv:Value) (at':Nat),x0=rv∧x2=pt w0.heap.size 0∧x4=pt (w0.heap.size+1) 0∧x5=.int .i64 (at':Nat)∧at'≤s.length∧kI s=Wit.decT a (s.drop at') ∧
 w.heap[w0.heap.size]?=some (.cells pZ 122 (0,0))∧w.heap[w0.heap.size+1]?=some (.cells (prL a.isSome vv (zG 32 0) (.slice .none 0 0)).toArray 122 (0,0))∧one vv=true∧NwB w0 w vv (a.getD [])∧(∀ b,qQb vv=some b→w0.heap.size+2≤b)∧No w0 w
def dcB (w0 w1:World)(rv:Value)(s:Bs)(a:Option Bs)(vv:Value)(at':Nat)(n:Nat)(vs:List Value)(w:World):Prop :=
 ∃ (i:Nat) (bits:Bs),vs=[rv,pt w0.heap.size 0,pt (w0.heap.size+1) 0,.int .i64 (at':Nat),.int .i64 (i:Nat)]∧i≤32∧n=32 - i∧bits=(s.drop at').take i++zG (32 - i) 0∧w.heap[w0.heap.size+1]?=some (.cells (prL a.isSome vv bits (.slice .none 0 0)).toArray 122 (0,0))∧Fr (fun b=>b=w0.heap.size+1) w1 w
def dcC (w0 w1:World)(rv:Value)(s:Bs)(a:Option Bs)(vv:Value)(bits:Bs)(at':Nat)(n:Nat)(vs:List Value)(w:World):Prop :=
 ∃ (j:Nat) (sv:Value),vs=[rv,pt w0.heap.size 0,pt (w0.heap.size+1) 0,.int .i64 ((at'+32*j:Nat):Int)]∧at'+32*j≤s.length∧n=s.length - (at'+32*j)∧w.heap[w0.heap.size+1]?=some (.cells (prL a.isSome vv bits sv).toArray 122 (0,0))∧one sv=true∧NwD w1 w 23 sv (kE j (s.drop at'))∧Fr (fun b=>b=w0.heap.size+1) w1 w
def dcD (w0 w2:World)(rv:Value)(s:Bs)(db:Nat)(p:Nat)(n:Nat)(vs:List Value)(w:World):Prop :=
 ∃ (i:Nat) (d:Bs),vs=[rv,pt w0.heap.size 0,pt (w0.heap.size+1) 0,.int .i64 (p:Nat),pt db 0,.int .i64 (i:Nat)]∧i≤32∧n=32 - i∧d=(s.drop p).take i++zG (32 - i) 0∧w.heap[db]?=some (.cells (bl d) 23 (0,0))∧Fr (fun b=>b=db) w2 w
theorem decode12 (w0:World){s:Bs}(hr:By w0 rv s)(hl:s.length≤2 ^ 47):Fn prog 82 #[rv] w0 (DcQ w0 (kI s)):=by
 refine go82 (by simp) ?_;unfold DenF;refine den_cut 3 ?_;obtain⟨xa,xc,rfl,hxc⟩:=hr.slice;have bl0:bldO prog 122 []=some (.agg pZ):=by kernel_rfl
 obtain⟨W,hW,f1,k1,k2,s1⟩:=qZa w0 pZ 122 pZ 122;have zsz:pZ.size=35:=by simp[pZ]
 have pz:=prL_zero;have k2':=k2;rw[pz]at k2'
 have fin:∀ (w:World) (p:List Value), w.heap[w0.heap.size]?=some (.cells pZ 122 (0, 0))→p.length=35→p.all one=true →
   wrO prog 122 w w0.heap.size 0 (.agg p.toArray)=some (put w w0.heap.size (.cells p.toArray 122 (0,0)))∧rdO prog 122 (put w w0.heap.size (.cells p.toArray 122 (0,0))) w0.heap.size 0=some (.agg p.toArray):=fun w p h hp ho =>
  ⟨qQw (by simp[hp,sz122]) h (by simp[hp]) (by simpa using ho),qXz agg122 (by simp[hp,sz122]) (qQf (o:=.cells p.toArray 122 (0,0)) h)⟩
 have finz:∀ w:World,w.heap[w0.heap.size]?=some (.cells pZ 122 (0,0))→wrO prog 122 w w0.heap.size 0 (.agg pZ)=some (put w w0.heap.size (.cells pZ 122 (0,0)))∧rdO prog 122 (put w w0.heap.size (.cells pZ 122 (0,0))) w0.heap.size 0=some (.agg pZ):=fun w h=>by
  have:=fin w (prL false (.slice .none 0 0) (zG 32 0) (.slice .none 0 0)) h (qXv (by simp)) (qJz rfl rfl);rw[← pz]at this;exact this
 have lst:∀ (w:World) (c:Array Value),No w0 w→No w0 (put w w0.heap.size (.cells c 122 (0,0))):=fun w c h=>h.put (b:=w0.heap.size) _ fun h=>absurd h (Nat.lt_irrefl _)
 have bad:∀ w:World,No w0 w→kI s=none→DcQ w0 (kI s) (.tuple #[.agg pZ,.int .i64 120]) (put w w0.heap.size (.cells pZ 122 (0,0))):=fun w f h=>by
  unfold DcQ;rw[h,← pz];exact⟨lst _ _ f,rfl⟩
 simp -implicitDefEqProofs only[go_sem,Tryz.f82,jM,hW];refine hold_go ?_;refine den_split (fun ev' w=>dcA w0 (.slice xa s.length xc) s (ev' 0) (ev' 2) (ev' 4) (ev' 5) w) ?_ ?_
 ·-- the answer
  have k1W:No w0 W:=f1
  rcases Nat.eq_zero_or_pos s.length with h0 | h0
  ·have hs:s=[]:=List.length_eq_zero_iff.1 h0
   have hd:kI s=none:=by rw[hs];rfl
   obtain⟨q3,l3⟩:=finz W k1;have hb:=bad W f1 hd;have d1:=dFo (((s.length:Nat):Int) ≥ 3);have d2:(((s.length:Nat):Int) == 0)=true:=by rw[h0];rfl
   simp -implicitDefEqProofs only[go_sem,jF,gLa,gLz,gLs,d1,d2,qJu,tf_beq,bl0,q3,l3];exact hb
  obtain⟨b,o,cap,he,_⟩:=hr.pos h0;cases he;have r0:=(hr.fr0 f1).get (P:=prog) agg5 (i:=0) h0;rw[Nat.add_zero]at r0;have y0:(0:Int)≤0∧(0:Int)<((s.length:Nat):Int):=by omega
  have d2:(((s.length:Nat):Int) == 0)=false:=by rw[bFn];omega
  have hxl:=(s.getD 0 0).isLt
  have hnot:¬ (3≤s.length∧(s.getD 0 0).toNat=1)→(s.getD 0 0).toNat≠0→kI s=none:=fun h h'=>by
   rw[Wit.decP_decT,if_neg (by omega)]
   by_cases h1:1<(s.getD 0 0).toNat
   ·rw[if_pos h1]
   ·rw[if_neg h1]
    have:yS (s.getD 0 0).toNat (s.drop 1)=none:=by
     unfold yS;rw[if_neg h',if_pos (by rw[lDr];omega)]
    rw[this];rfl
  by_cases h3:3≤s.length∧(s.getD 0 0).toNat=1
  ·obtain⟨h3l,h31⟩:=h3
   have d1:=dTo (((s.length:Nat):Int) ≥ 3);have d3:(((s.getD 0 0).toNat:Int) == 1)=true:=by rw[h31];rfl
   have r1:=(hr.fr0 f1).get (P:=prog) agg5 (i:=1) (by omega);have r2:=(hr.fr0 f1).get (P:=prog) agg5 (i:=2) (by omega);have r1d:rdO prog 5 W.drew b (o+1)=_:=r1;have r2d:rdO prog 5 W.drew b (o+2)=_:=r2;have y1:(0:Int)≤1∧(1:Int)<((s.length:Nat):Int):=by omega
   have y2:(0:Int)≤2∧(2:Int)<((s.length:Nat):Int):=by omega
   have t1:(1:Int).toNat=1:=rfl;have t2:(2:Int).toNat=2:=rfl;have hb1:=(s.getD 1 0).isLt;have hb2:=(s.getD 2 0).isLt
   obtain⟨n,hn⟩:∃ n,n=(s.getD 1 0).toNat+256*(s.getD 2 0).toNat:=⟨_,rfl⟩
   have c1:IntKind.i64.wrap ((s.getD 1 0).toNat:Int)=((s.getD 1 0).toNat:Int):=i64n;have c2:IntKind.i64.wrap ((s.getD 2 0).toNat:Int)=((s.getD 2 0).toNat:Int):=i64n;have c3:IntKind.i64.wrap (256*((s.getD 2 0).toNat:Int))=((256*(s.getD 2 0).toNat:Nat):Int):=by rw[show 256*((s.getD 2 0).toNat:Int)=((256*(s.getD 2 0).toNat:Nat):Int) by omega];exact i64n
   have c4:IntKind.i64.wrap (((s.getD 1 0).toNat:Int)+((256*(s.getD 2 0).toNat:Nat):Int))=(n:Int):=by rw[hn];exact qXc
   have c5:IntKind.i64.wrap (3+(n:Int))=((3+n:Nat):Int):=qXc (a:=3);have g1:(s.drop 1).getD 0 0=s.getD 1 0:=by simp[gDq]
   have g2:(s.drop 1).getD 1 0=s.getD 2 0:=by simp[gDq]
   have hans:yS (s.getD 0 0).toNat (s.drop 1)=if n > 128 then none else if s.length<3+n then none else some (some ((s.drop 3).take n),s.drop (3+n)):=by
    unfold yS;rw[h31,if_neg (by decide),if_neg (by rw[lDr];omega),g1,g2,← hn,vP,lDr,vP]
    by_cases hh:n > 128
    ·rw[if_pos hh,if_pos hh]
    ·rw[if_neg hh,if_neg hh]
     by_cases hh2:s.length<3+n
     ·rw[if_pos (by omega),if_pos hh2]
     ·rw[if_neg (by omega),if_neg hh2]
   have hdec:kI s=(if n > 128 then none else if s.length<3+n then none else some (some ((s.drop 3).take n),s.drop (3+n)):Option (Option Bs × Bs)).bind fun p=>Wit.decT p.1 p.2:=by
    rw[Wit.decP_decT,if_neg (by omega),if_neg (by omega),hans]
   by_cases hn1:n > 128
   ·rw[if_pos hn1]at hdec
    obtain⟨q3,l3⟩:=finz W.drew k1;have hbd:=bad W.drew f1.drew hdec;have d4:=dTo ((n:Int) > 128);simp -implicitDefEqProofs only[go_sem,jF,jB,gLa,gLz,gLs,d1,y0,y1,y2,t1,t2,and_self,vL,jH,r0,r1d,r2d,d3,c1,c2,c3,c4,d4,tf_beq,bSe,bl0,q3,l3];exact hbd
   have d4:=dFo ((n:Int) > 128)
   by_cases hn2:s.length<3+n
   ·rw[if_neg hn1,if_pos hn2]at hdec
    obtain⟨q3,l3⟩:=finz W.drew k1;have hbd:=bad W.drew f1.drew hdec;have d5:=dTo (((3+n:Nat):Int) > ((s.length:Nat):Int));simp -implicitDefEqProofs only[go_sem,jF,jB,gLa,gLz,gLs,d1,y0,y1,y2,t1,t2,and_self,vL,jH,r0,r1d,r2d,d3,c1,c2,c3,c4,c5,d4,d5,bSe,bl0,q3,l3];exact hbd
   rw[if_neg hn1,if_neg hn2]at hdec;have d5:=dFo (((3+n:Nat):Int) > ((s.length:Nat):Int));have k2d:W.drew.heap[w0.heap.size+1]?=_:=k2';have q4:=prFlag (f':=true) k2d (by simp);have f4:Fr (fun b=>b=w0.heap.size+1) W.drew (put W.drew (w0.heap.size+1) (.cells (prL true (.slice .none 0 0) (zG 32 0) (.slice .none 0 0)).toArray 122 (0,0))):=(Fr.refl _ _).put (b:=w0.heap.size+1) _ fun _=>rfl;have k4:=qQf (o:=.cells (prL true (.slice .none 0 0) (zG 32 0) (.slice .none 0 0)).toArray 122 (0,0)) k2d;have sl:qXe prog 25 (.slice (some ⟨b,o,.none⟩) s.length xc) (some (.int .i64 3)) (some (.int .i64 ((3+n:Nat):Int))) .none=some (cutV 1 (some ⟨b,o,.none⟩) xc 3 (3+n)):=slc_both (P:=prog) slc25 arr25 sz5 (l:=3) (m:=3+n) (by omega) (by omega) hxc;simp -implicitDefEqProofs only[go_sem,jF,jB,gLa,gLz,gLs,d1,y0,y1,y2,t1,t2,and_self,vL,jH,r0,r1d,r2d,d3,c1,c2,c3,c4,c5,d4,d5,bSe,q4];generalize put W.drew (w0.heap.size+1) (.cells (prL true (.slice .none 0 0) (zG 32 0) (.slice .none 0 0)).toArray 122 (0,0))=w4 at *;have f04:No w0 w4:=f1.drew.trans' f4 fun b hb h=>by omega
   have hsub:By w4 (cutV 1 (some ⟨b,o,.none⟩) xc 3 (3+n)) ((s.drop 3).take n):=by
    have:=By.cutV (hr.fr0 f04) (show 3≤3+n by omega) (show 3+n≤s.length by omega) rfl
    rwa [show 3+n - 3=n by omega]at this
   simp -implicitDefEqProofs only[go_sem,sl];refine qQa pl135 ((bytes12 w4 hsub (by rw[lTk];omega)).mono ?_);rintro vv w5 ⟨n5,f5⟩;have k5:=f5.at k4 id;have k15:=f5.at (f4.at (show W.drew.heap[w0.heap.size]?=_ from k1) (by omega)) id;have ov:=n5.by.one
   have q6:=prVal k5 (by simp) ov;simp -implicitDefEqProofs only[go_sem,jF,q6,c5];have f6:Fr (fun b=>b=w0.heap.size+1) w5 (put w5 (w0.heap.size+1) (.cells (prL true vv (zG 32 0) (.slice .none 0 0)).toArray 122 (0,0))):=(Fr.refl _ _).put (b:=w0.heap.size+1) _ fun _=>rfl;have s4:=f4.size;have s5:W.drew.heap.size=w0.heap.size+2:=s1;refine⟨some ((s.drop 3).take n),vv,3+n,rfl,rfl,rfl,rfl,by omega,hdec,f6.at k15 (by omega),qQf k5,ov,?_,fun b hb=>?_,(f04.trans f5).trans' f6 fun b hb h=>by omega⟩
   ·exact (n5.fr f6 fun b hb h=>by have:=(n5.lt hb).1;omega).back (by omega)
   ·have:=(n5.lt hb).1;omega
  ·have d3:3≤s.length→(((s.getD 0 0).toNat:Int) == 1)=false:=fun h=>by rw[bFn];omega
   by_cases hz:(s.getD 0 0).toNat=0
   ·have d6:(((s.getD 0 0).toNat:Int) == 0)=true:=by rw[hz];rfl
    have hdec:kI s=Wit.decT none (s.drop 1):=by
     rw[Wit.decP_decT,if_neg (by omega),if_neg (by omega)];unfold yS;rw[if_pos hz]
     rfl
    have hfin:dcA w0 (.slice (some ⟨b,o,.none⟩) s.length xc) s (.slice (some ⟨b,o,.none⟩) s.length xc) (pt w0.heap.size 0) (pt (w0.heap.size+1) 0) (.int .i64 1) W:=⟨none,.slice .none 0 0,1,rfl,rfl,rfl,rfl,by omega,hdec,k1,k2',rfl,NwB.nil _ _,fun b hb=>(by cases hb),f1⟩
    by_cases h3l:3≤s.length
    ·have d1:=dTo (((s.length:Nat):Int) ≥ 3)
     have d3:=d3 h3l;simp -implicitDefEqProofs only[go_sem,jF,gLa,gLz,gLs,d1,d2,d3,d6,bne,y0,and_self,vL,r0,bSe,rZ];exact hfin
    ·have d1:=dFo (((s.length:Nat):Int) ≥ 3)
     simp -implicitDefEqProofs only[go_sem,jF,gLa,gLz,gLs,d1,d2,d6,bne,y0,and_self,vL,r0,qJu,bSe,rZ];exact hfin
   ·have d6:(((s.getD 0 0).toNat:Int) == 0)=false:=by rw[bFn];omega
    obtain⟨q3,l3⟩:=finz W k1;have hbd:=bad W f1 (hnot h3 hz)
    by_cases h3l:3≤s.length
    ·have d1:=dTo (((s.length:Nat):Int) ≥ 3)
     have d3:=d3 h3l;simp -implicitDefEqProofs only[go_sem,jF,gLa,gLz,gLs,d1,d2,d3,d6,bne,y0,and_self,vL,r0,bSe,xY,bl0,q3,l3];exact hbd
    ·have d1:=dFo (((s.length:Nat):Int) ≥ 3)
     simp -implicitDefEqProofs only[go_sem,jF,gLa,gLz,gLs,d1,d2,d6,bne,y0,and_self,vL,r0,qJu,bSe,xY,bl0,q3,l3];exact hbd
 ·rintro ev w1 ⟨a,vv,at',e0,e2,e4,e5,hat,hdec,k1',k2'',hvo,hvn,hvb,fw⟩
  obtain⟨bits0,hbits0⟩:∃ bits,bits=zG 32 (0:Byte):=⟨_,rfl⟩
  have fhl:=Nat.le_trans hl (show 2 ^ 47≤2 ^ 47 by omega)
  by_cases h32:s.length<at'+32
  ·have hd:kI s=none:=by rw[hdec];unfold Wit.decT;rw[if_pos (by rw[lDr];omega)]
   obtain⟨q3,l3⟩:=finz w1 k1';have hbd:=bad w1 fw hd;have c1:IntKind.i64.wrap ((at':Int)+32)=((at'+32:Nat):Int):=qXc (b:=32);have d1:=dTo (((at'+32:Nat):Int) > ((s.length:Nat):Int));simp -implicitDefEqProofs only[go_sem,jF,gLa,gLz,e0,e2,e5,c1,d1,bl0,q3,l3];exact hbd
  have c1:IntKind.i64.wrap ((at':Int)+32)=((at'+32:Nat):Int):=qXc (b:=32);have d1:=dFo (((at'+32:Nat):Int) > ((s.length:Nat):Int));obtain⟨b,o,cap,he,_⟩:=hr.pos (by omega);cases he;simp -implicitDefEqProofs only[go_sem,jF,gLa,gLz,e0,e5,c1,d1];refine loopD [0,2,4,5,7] (dcB w0 w1 (.slice (some ⟨b,o,.none⟩) s.length xc) s a vv at') 32 ⟨0,_,by show [ev 0,ev 2,ev 4,ev 5,_]=_;rw[e0,e2,e4,e5];rfl,by omega,rfl,by simp,k2'',Fr.refl _ _⟩ ?_;rintro _ vs w2 g2 ⟨i,bits,rfl,hi,rfl,hbits,kp2,f2⟩;have f02:No w0 w2:=fw.trans' f2 fun b hb h=>by omega
  have hbl:bits.length=32:=by rw[hbits,lAp,lTk,lRe,lDr];omega
  by_cases hlt:i<32
  ·have d2:=dTo ((i:Int)<32)
   have c2:IntKind.i64.wrap ((at':Int)+(i:Int))=((at'+i:Nat):Int):=qXc;have c3:=iSu (i:=i);have y1:(0:Int)≤((at'+i:Nat):Int)∧((at'+i:Nat):Int)<((s.length:Nat):Int):=by omega
   have y2:=iBd (i:=i) (n:=32);have y3:=y2.2;have r1:=(hr.fr0 f02).get (P:=prog) agg5 (i:=at'+i) (by omega);have q2:=prBit kp2 hbl hlt (s.getD (at'+i) 0);have q2:wrO prog 5 w2 (w0.heap.size+1) (2+i) (.int .u8 ((s.getD (at'+i) 0).toNat:Int))=_:=q2;simp -implicitDefEqProofs only[go_sem,jF,d2,c2,c3,y1,y2,and_self,if_true,iTn,jH,r1,q2];exact⟨32 - (i+1),by omega,i+1,_,rfl,by omega,rfl,by rw[hbits];exact take_set (by rw[lDr];omega) hlt (by simp[gDq]),qQf kp2,f2.put (b:=w0.heap.size+1) _ fun _=>rfl⟩
  obtain rfl:i=32:=by omega
  rw[jQ,rJ,List.append_nil]at hbits;have d2:decide (((32:Nat):Int)<32)=false:=rfl;have hdl:(s.drop at').length=s.length - at':=lDr;have hk2:No w0 w2:=f02;simp -implicitDefEqProofs only[go_sem,jF,d2,c1];refine loopD [0,2,4,5] (dcC w0 w2 (.slice (some ⟨b,o,.none⟩) s.length xc) s a vv bits (at'+32)) (s.length - (at'+32)) ⟨0,_,rfl,by omega,rfl,kp2,rfl,NwD.nil _ _ _,Fr.refl _ _⟩ ?_;rintro _ vs w3 g3 ⟨j,sv,rfl,hj,rfl,kp3,osv,nsv,f3⟩;have f03:No w0 w3:=f02.trans' f3 fun b hb h=>by omega
  have hjl:(kE j (s.drop (at'+32))).length=j:=Wit.chunk_len _ _
  obtain⟨p,hp⟩:∃ p,p=at'+32+32*j:=⟨_,rfl⟩
  have hc1:IntKind.i64.wrap ((p:Int)+32)=((p+32:Nat):Int):=qXc (b:=32);rw[← hp]at hj ⊢
  by_cases hlt:p+32≤s.length
  ·have d3:=dTo (((p+32:Nat):Int)≤((s.length:Nat):Int))
   obtain⟨w4,h4,f4,k4,s4⟩:=qQs w3 (bl (zG 32 0)) 23;simp -implicitDefEqProofs only[go_sem,jF,gLa,gLz,hc1,d3,jM,qQj,h4];refine loopD [0,2,4,5,8,9] (dcD w0 w4 (.slice (some ⟨b,o,.none⟩) s.length xc) s w3.heap.size p) 32 ⟨0,_,rfl,by omega,rfl,by simp,k4,Fr.refl _ _⟩ ?_;rintro _ vs w5 g5 ⟨i,d,rfl,hi,rfl,hd,kd,f5⟩;have f45:No w3 w5:=f4.trans' f5 fun b hb h=>by omega
   have f05:=f03.trans f45;have hdl:d.length=32:=by rw[hd,lAp,lTk,lRe,lDr];omega
   by_cases hi2:i<32
   ·have d2:=dTo ((i:Int)<32)
    have c2:IntKind.i64.wrap ((p:Int)+(i:Int))=((p+i:Nat):Int):=qXc;have c3:=iSu (i:=i);have y1:(0:Int)≤((p+i:Nat):Int)∧((p+i:Nat):Int)<((s.length:Nat):Int):=by omega
    have y2:=iBd (i:=i) (n:=32);have y3:=y2.2;have r1:=(hr.fr0 f05).get (P:=prog) agg5 (i:=p+i) (by omega)
    have q2:wrO prog 5 w5 w3.heap.size i (.int .u8 ((s.getD (p+i) 0).toNat:Int))=some (put w5 w3.heap.size (.cells (bl (d.set i (s.getD (p+i) 0))) 23 (0,0))):=by
     rw[wr1 (P:=prog) sz5 rfl kd (by rw[qXa,hdl];exact hi2)]
     congr 3
     exact bl_set d i _
    simp -implicitDefEqProofs only[go_sem,jF,d2,c2,c3,y1,y2,and_self,if_true,iTn,jH,z8,r1,q2];exact⟨32 - (i+1),by omega,i+1,_,rfl,by omega,rfl,by rw[hd];exact take_set (by rw[lDr];omega) hi2 (by simp[gDq]),qQf kd,f5.put (b:=w3.heap.size) _ fun _=>rfl⟩
   obtain rfl:i=32:=by omega
   rw[jQ,rJ,List.append_nil]at hd;have d2:decide (((32:Nat):Int)<32)=false:=rfl;have kp5:=f45.at kp3 id;have rs:=prRdSum kp5 hbl;have rdd:=rd_d agg23 sz23 kd hdl;simp -implicitDefEqProofs only[go_sem,jF,d2,rs,rdd];refine qQl (v:=.slice (some ⟨w5.heap.size,0,.none⟩) 1 1) (w':=w5.alloc (.cells (bl d) 23)) (qXb (y:=List.map u8 (zG 32 0)) (by simp) (c:=bl (zG 32 0)) (by simp) (d:=d) hdl _) ?_;have z3:=f3.size;have z45:=f45.size;obtain⟨v6,w6,hr6,n6,g6,m6⟩:=(nsv.fr0 f45).pushX app94_94 hdl (by rw[hjl];omega) (by omega);simp -implicitDefEqProofs only[go_sem,jF];refine qQg ⟨v6,w6,hr6,?_⟩
   have hsv:∀ b,qQb sv=some b→b≠w0.heap.size+1:=fun b hb h=>by
    have:=(nsv.lt hb).1;have:=qQh kp2;omega
   have kp6:=g6.at kp5 fun h=>hsv _ h rfl;have o6:one v6=true:=by obtain⟨x,c,e,_⟩:=n6.rd.slice;rw[e];rfl
   have q7:=prSum kp6 hbl o6;have hc2:IntKind.i64.wrap ((p:Int)+32)=((p+32:Nat):Int):=hc1
   have hsn:kE (j+1) (s.drop (at'+32))=kE j (s.drop (at'+32))++[d]:=by
    rw[Wit.chunk_snoc,hd,vP,hp]
   rw[← hsn]at n6;simp -implicitDefEqProofs only[go_sem,jF,q7,hc2];have f6:Fr (fun b=>b=w0.heap.size+1) w6 (put w6 (w0.heap.size+1) (.cells (prL a.isSome vv bits v6).toArray 122 (0,0))):=(Fr.refl _ _).put (b:=w0.heap.size+1) _ fun _=>rfl;refine⟨s.length - (p+32),by omega,j+1,v6,?_,by omega,by omega,qQf kp6,o6,n6.fr f6 (fun b hb h=>?_),?_⟩
   ·rw[show at'+32+32*(j+1)=p+32 by omega]
   ·rcases m6 b hb with h' | h'
    ·exact hsv b h' h
    ·have:=qQh kp5;omega
   ·refine ((f3.trans (f45.mono fun _ _ h=>h.elim)).trans' g6 fun b hb h=>?_).trans f6
    have:=(nsv.lt h).1;omega
  have d3:=dFo (((p+32:Nat):Int)≤((s.length:Nat):Int));simp -implicitDefEqProofs only[go_sem,jF,gLa,gLz,hc1,d3];have kb3:=prRdBits kp3 hbl;have ks3:=prRdSum kp3 hbl;have kb3d:rdO prog 22 w3.drew (w0.heap.size+1) 2=_:=kb3;have ks3d:rdO prog 94 w3.drew (w0.heap.size+1) 34=_:=ks3
  have hT:kI s=if s.length - at' - 32≠32*(kA bits 256 0).length then none else some (a,bits,kE (kA bits 256 0).length (s.drop (at'+32))):=by
   rw[hdec];unfold Wit.decT;rw[if_neg (by omega),hdl,← hbits,vP]
  have k13:=f3.at (f2.at k1' (by omega)) (by omega);have z3:=f3.size;have z2:=f2.size;obtain⟨q3,l3⟩:=finz w3.drew k13;refine qXh (fun j=>j == 10) [0,1,2,3,4,5,6,7,8,9,10,11,12] rfl (by kernel_rfl) (by kernel_rfl) ?_
  by_cases hps:p=s.length
  ·have d4:(((p:Nat):Int) == ((s.length:Nat):Int))=true:=by rw[hps];exact bSe _
   obtain⟨na,nc,hne⟩:∃ na nc,sv=.slice na j nc:=by
    obtain⟨x,c,e,_⟩:=nsv.rd.slice;rw[hjl]at e;exact⟨x,c,e⟩
   subst hne;simp -implicitDefEqProofs only[go_sem,jF,jB,gLa,gLz,gLs,d4,bne,rZ,kb3d,ks3d,bSe];refine qQt pl127 ((R.ones w3.drew hbl).mono ?_);rintro _ w4 ⟨rfl,f4⟩;refine⟨fun _=>Fr.ext f4,?_⟩;rw[pops_poss hbl];have f34:No w3 w4:=(Fr.refl _ _).drew.trans f4;have k14:=f34.at k13 id;have f04:=f03.trans f34
   by_cases hcn:j=(kA bits 256 0).length
   ·have d5:(((j:Nat):Int) == (((kA bits 256 0).length:Nat):Int))=true:=by rw[hcn];exact bSe _
    rw[if_neg (by omega),← hcn]at hT;have k4:=f34.at kp3 id;have r4:=prRd k4 hbl;obtain⟨q5,l5⟩:=fin w4 (prL a.isSome vv bits (.slice na j nc)) k14 (qXv hbl) (qJz hvo rfl);simp -implicitDefEqProofs only[go_sem,jF,jB,gLa,gLz,gLs,d5,bne,rZ,bSe,r4,q5,l5];rw[hT];have f5:No w0 (put w4 w0.heap.size (.cells (prL a.isSome vv bits (.slice na j nc)).toArray 122 (0,0))):=lst _ _ f04;have g5:Fr (fun b=>b=w0.heap.size) w4 (put w4 w0.heap.size (.cells (prL a.isSome vv bits (.slice na j nc)).toArray 122 (0,0))):=(Fr.refl _ _).put (b:=w0.heap.size) _ fun _=>rfl;have f14:Fr (fun b=>b=w0.heap.size+1) w1 w4:=f2.trans (f3.trans (f34.mono fun _ _ h=>h.elim));have nv5:=(hvn.fr f14 (fun b hb h=>by have:=hvb b hb;omega)).fr g5 fun b hb h=>by have:=hvb b hb;omega
    have ns5:=((nsv.fr0 f34)).fr g5 fun b hb h=>by have:=(nsv.lt hb).1;have:=qQh kp2;omega
    refine⟨f5,vv,.slice na j nc,rfl,nv5.by,ns5.rd,hvo,rfl,fun b hb=>?_,fun b hb=>?_⟩
    ·exact nv5.lt hb
    ·have:=ns5.lt hb;have:=f02.size;omega
   ·have d5:(((j:Nat):Int) == (((kA bits 256 0).length:Nat):Int))=false:=by rw[bFn];omega
    rw[if_pos (by omega)]at hT;obtain⟨q5,l5⟩:=finz w4 k14;have hbd:=bad w4 f04 hT;simp -implicitDefEqProofs only[go_sem,jF,jB,gLa,gLz,gLs,d5,bne,xY,bSe,bl0,q5,l5];exact hbd
  ·have d4:(((p:Nat):Int) == ((s.length:Nat):Int))=false:=by rw[bFn];omega
   rw[if_pos (by omega)]at hT;have hbd:=bad w3.drew f03.drew hT;simp -implicitDefEqProofs only[go_sem,jF,jB,gLa,gLz,gLs,d4,bne,xY,tf_beq,bl0,q3,l3];exact hbd
end R
end
end Go.V
