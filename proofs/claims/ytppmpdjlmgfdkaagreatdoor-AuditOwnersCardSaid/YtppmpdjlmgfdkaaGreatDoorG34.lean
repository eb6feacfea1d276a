/- Helpers. -/
import Derived.Test.YtppmpdjlmgfdkaaGreatDoorG30
import Derived.Test.YtppmpdjlmgfdkaaGreatDoorG20
import Derived.Test.YtppmpdjlmgfdkaaGreatDoorG11
set_option linter.all false
set_option maxRecDepth 100000
set_option maxHeartbeats 8000000
open Array renaming length_toList→zK,all_toList→vM
open List renaming length_map→zW,mem_cons_of_mem→z7,mem_map_of_mem→yW,length_cons→zU,countP_map→vN,perm_ext_iff_of_nodup→vP,mem_append_right→zN,mem_append_left→zP,range→zX,mem_cons_self→jX
open Nat renaming reduceEqDiff→jY,zero_add→zB,reduceBEq→jG,zero_le→zE,reduceAdd→y7
open Go.Value renaming int→yL,cells→jH
namespace Go.V
open Go.Proofs.Tryz Go.V.Tryz
open Go.Proofs Sha
variable {im:Bs} {fs:List (Nat × Int)} {nl rl:List (Nat × Value)} {B c k mn mr sb ub:Nat} {S:Nat→Prop} {et kt t:TypeId} {iv vv:Value} {u w:World}
section
namespace A
open Aud
def isLf:Option Pg→Bool
 | some (.nd (.leaf _ _))=>true
 | _=>false
def isBrn:Option Pg→Bool
 | some (.nd (.br _ _ _ _ _ _))=>true
 | _=>false
def cntP (f:Option Pg→Bool)(pg:Nat→Option Pg)(k:Nat):Nat:=(zX k).countP fun p=>f (pg p)
theorem cntP_le (f:Option Pg→Bool)(pg:Nat→Option Pg)(k:Nat):cntP f pg k≤k:=Nat.le_trans List.countP_le_length (by simp)
theorem cnt_keys {ks:List Nat}(hn:ks.Nodup){q f:Nat→Bool}(h:∀ p,p ∈ ks ↔ p<k∧q p=true)(hf:∀ p,f p=true→q p=true):ks.countP f=(zX k).countP f:=by
 have hp:ks.Perm ((zX k).filter q):=(vP hn (List.nodup_range.filter _)).2 fun p=>by
  rw[h p,List.mem_filter,List.mem_range]
 rw[hp.countP_eq,List.countP_filter]
 congr 1
 funext p
 cases hfp:f p with
 | false=>simp
 | true=>simp[hf p hfp]
abbrev rpC (wd pgs mk hd ft lt lv br rc:Nat)(fv:Value):Array Value:=#[.int .i64 (wd:Nat),.int .i64 (pgs:Nat),.int .i64 (mk:Nat),.int .i64 (hd:Nat),.int .i64 (ft:Nat),.int .i64 (lt:Nat),.int .i64 (lv:Nat),.int .i64 (br:Nat),.int .i64 (rc:Nat),fv]
abbrev rp0:Array Value:=#[.int .i64 0,.int .i64 0,.int .i64 0,.int .i64 0,.int .i64 0,.int .i64 0,.int .i64 0,.int .i64 0,.int .i64 0,.slice none 0 0]
theorem bldRp0:bldO prog 25 []=some (.agg rp0):=by
 rw[qJw zero25 places25 (c:=rp0) (by kernel_rfl)];rfl
def rpPs:List (Nat × Nat):=[(0,1),(1,1),(2,1),(3,1),(4,1),(5,1),(6,1),(7,1),(8,1),(9,1)]
theorem rpPlaces:qQy prog 25=some rpPs:=by kernel_rfl
theorem bldRp (wd pgs mk hd rc:Nat)(a:Option Addr)(n cap:Nat):bldO prog 25 [(0,.int .i64 (wd:Nat)),(1,.int .i64 (pgs:Nat)),(2,.int .i64 (mk:Nat)),(3,.int .i64 (hd:Nat)),(8,.int .i64 (rc:Nat)),(9,.slice a n cap)]=some (.agg (rpC wd pgs mk hd 0 0 0 0 rc (.slice a n cap))):=by
 rw[qJw zero25 rpPlaces (c:=rp0) (by kernel_rfl)];have s:∀ (i:Nat) (a r:List Value) (u v:Value) (rest:List (Nat × Value)),rpPs[i]?=some (i,1)→a.length=i→one v=true→Instr.fill (fun i=>rpPs[i]?) (a++u::r).toArray ((i,v)::rest)=Instr.fill (fun i=>rpPs[i]?) (a++v::r).toArray rest:=fun i a r u v rest hp ha hv=>qZw hp ha hv;have g0:=s 0 [] [yL .i64 0,yL .i64 0,yL .i64 0,yL .i64 0,yL .i64 0,yL .i64 0,yL .i64 0,yL .i64 0,.slice none 0 0] (yL .i64 0) (.int .i64 (wd:Nat)) [(1,.int .i64 (pgs:Nat)),(2,.int .i64 (mk:Nat)),(3,.int .i64 (hd:Nat)),(8,.int .i64 (rc:Nat)),(9,.slice a n cap)] rfl rfl rfl;have g1:=s 1 [yL .i64 (wd:Nat)] [yL .i64 0,yL .i64 0,yL .i64 0,yL .i64 0,yL .i64 0,yL .i64 0,yL .i64 0,.slice none 0 0] (yL .i64 0) (.int .i64 (pgs:Nat)) [(2,.int .i64 (mk:Nat)),(3,.int .i64 (hd:Nat)),(8,.int .i64 (rc:Nat)),(9,.slice a n cap)] rfl rfl rfl;have g2:=s 2 [yL .i64 (wd:Nat),.int .i64 (pgs:Nat)] [yL .i64 0,yL .i64 0,yL .i64 0,yL .i64 0,yL .i64 0,yL .i64 0,.slice none 0 0] (yL .i64 0) (.int .i64 (mk:Nat)) [(3,.int .i64 (hd:Nat)),(8,.int .i64 (rc:Nat)),(9,.slice a n cap)] rfl rfl rfl;have g3:=s 3 [yL .i64 (wd:Nat),.int .i64 (pgs:Nat),.int .i64 (mk:Nat)] [yL .i64 0,yL .i64 0,yL .i64 0,yL .i64 0,yL .i64 0,.slice none 0 0] (yL .i64 0) (.int .i64 (hd:Nat)) [(8,.int .i64 (rc:Nat)),(9,.slice a n cap)] rfl rfl rfl;have g4:=s 8 [yL .i64 (wd:Nat),.int .i64 (pgs:Nat),.int .i64 (mk:Nat),.int .i64 (hd:Nat),yL .i64 0,yL .i64 0,yL .i64 0,yL .i64 0] [.slice none 0 0] (yL .i64 0) (.int .i64 (rc:Nat)) [(9,.slice a n cap)] rfl rfl rfl;have g5:=s 9 [yL .i64 (wd:Nat),.int .i64 (pgs:Nat),.int .i64 (mk:Nat),.int .i64 (hd:Nat),yL .i64 0,yL .i64 0,yL .i64 0,yL .i64 0,.int .i64 (rc:Nat)] [] (.slice none 0 0) (.slice a n cap) [] rfl rfl rfl
 rw[qZf]at g5;exact congrArg (Option.map Value.agg) (((((g0.trans g1).trans g2).trans g3).trans g4).trans g5)
theorem qKp {e:Int}(h:lookP im=.error e):(e != 0)=true:=by
 unfold lookP at h;split at h
 ·cases h;rfl
 ·split at h
  ·cases h;rfl
  ·split at h
   ·rename_i hc;cases h;exact chooseP_err hc
   ·split at h
    ·cases h;rfl
    ·cases h
theorem lenMap (ht:mapO prog t=some (kt,et)){ty:TypeId}{mb:Nat}{es:Array MapEntry}(h:w.heap[mb]?=some (.map es c)):(Builtin.len_ #[t] ty #[.map (some mb)]).run prog w=.ok (goInt es.size) w:=by
 have hu:prog.underlying t=some (.map kt et):=by
  unfold mapO at ht;split at ht
  ·rename_i k e hk;cases ht;exact hk
  ·cases ht
 simp[Builtin.len_,r_und hu,getObj,Sem.run,h]
def CkQ (u:World)(im:Bs)(v:Value)(w:World):Prop:=No u w ∧
 match lookP im with
 | .error e=>v=.tuple #[.agg rp0,.int .i64 e]
 | .ok (s,fs)=>∃ fv,v=.tuple #[.agg (rpC s.width s.pages s.mark s.head (if isRc (pgF im s.mark s.head) then (rcAt (pgF im s.mark) s.head).first else 0) (if isRc (pgF im s.mark s.head) then (rcAt (pgF im s.mark) s.head).ver else 0) (cntP isLf (pgF im s.mark) s.mark) (cntP isBrn (pgF im s.mark) s.mark) (chK (pgF im s.mark) s.mark).length fv),.int .i64 0]∧NwR u w 43 2 fv (fnR fs)
theorem mapUnd (ht:mapO prog t=some (kt,et)):prog.underlying t=some (.map kt et):=by
 unfold mapO at ht;split at ht
 ·rename_i k e hk;cases ht;exact hk
 ·cases ht
def lfE (e:MapEntry):Bool:=match e.val with
 | .agg c=>(match c[0]? with | some (yL _ 1)=>true | _=>false)
 | _=>false
theorem lfE_nd {e:MapEntry}{n:Nd}(h:e.val=.agg (ndA n vv).toArray):lfE e=isLf (some (.nd n)):=by
 unfold lfE;rw[h]
 cases n <;> rfl
theorem ents_nd {s:Sup}{cv vv fv bv:Value}{pg:Nat→Option Pg}(h:SgM u w sb iv im s mn mr cv vv fv bv nl rl pg k fs){es:Array MapEntry}(he:w.heap[mn]?=some (.map es c)) :
  (∀ e ∈ es.toList,∃ p n vv,pg p=some (.nd n)∧e.val=.agg (ndA n vv).toArray∧one vv=true)∧es.toList.countP lfE=cntP isLf pg k∧es.toList.countP (fun e=>!lfE e)=cntP isBrn pg k∧(∀ e ∈ es.toList,e.born<c)∧(es.toList.map (·.born)).Nodup:=by
 obtain⟨es',c',h1,h2,h3,h4,h5,h6⟩:=id h.nds;rw[he]at h1;cases h1
 have key:∀ q ∈ nl,∃ n vv,q.1<k∧pg q.1=some (.nd n)∧q.2=.agg (ndA n vv).toArray∧one vv=true:=fun q hq=>by
  have hf:=(findM_mem h4).2 (show (q.1,q.2) ∈ nl from hq);have hn:=h.na q.1;split at hn
  ·rename_i n e
   obtain⟨x,hx,vv,e2,ov,_,_⟩:=hn;rw[hf]at hx;cases hx
   by_cases hl:q.1<k
   ·rw[if_pos hl]at e;exact⟨n,vv,hl,e,e2,ov⟩
   ·rw[if_neg hl]at e;cases e
  ·rw[hf]at hn;cases hn
 have ent:∀ e ∈ es.toList,∃ q ∈ nl,e.val=q.2:=fun e he'=>by
  have:=yW (f:=fun e:MapEntry=>(e.key,e.val)) he';rw[h2]at this;obtain⟨q,hq,e'⟩:=List.mem_map.1 this;exact⟨q,hq,(congrArg Prod.snd e').symm⟩
 have mem:∀ p,p ∈ nl.map (·.1) ↔ p<k∧(isLf (pg p) || isBrn (pg p))=true:=fun p=>by
  constructor
  ·intro hp
   obtain⟨q,hq,rfl⟩:=List.mem_map.1 hp;obtain⟨n,vv,hl,e,_⟩:=key q hq;refine⟨hl,?_⟩;rw[e]
   cases n <;> rfl
  ·rintro⟨hl,hp⟩
   refine Classical.byContradiction fun hc=>?_;have hf:=qKr.2 hc;have hn:=h.na p;rw[if_pos hl]at hn
   cases hg:pg p with
   | none=>rw[hg]at hp;cases hp
   | some g =>
    rw[hg]at hn hp
    cases g with
    | rc r=>cases hp
    | nd n =>
     obtain⟨x,hx,_⟩:=hn;rw[hf]at hx;cases hx
 have cnt:∀ (f:MapEntry→Bool) (g:Option Pg→Bool),(∀ e n vv,e.val=.agg (ndA n vv).toArray→f e=g (some (.nd n)))→(∀ p,g (pg p)=true→(isLf (pg p) || isBrn (pg p))=true)→es.toList.countP f=cntP g pg k:=fun f g hfg hg=>by
  have e1:es.toList.countP f=(es.toList.map (fun e=>(e.key,e.val))).countP fun x=>f { key:=x.1,val:=x.2,born:=0 }:=by
   rw[vN];refine List.countP_congr fun e he'=>?_;obtain⟨q,hq,ev⟩:=ent e he';obtain⟨n,vv,_,_,e2,_⟩:=key q hq;show f e=true ↔ f { key:=e.key,val:=e.val,born:=0 }=true;rw[hfg e n vv (ev.trans e2),hfg { key:=e.key,val:=e.val,born:=0 } n vv (ev.trans e2)]
  rw[e1,h2,vN]
  have e2:nl.countP ((fun x:Value × Value=>f { key:=x.1,val:=x.2,born:=0 }) ∘ fun p=>(encN p.1,p.2))=(nl.map (·.1)).countP fun p=>g (pg p):=by
   rw[vN];refine List.countP_congr fun q hq=>?_;obtain⟨n,vv,_,e,e2,_⟩:=key q hq;show f { key:=encN q.1,val:=q.2,born:=0 }=true ↔ g (pg q.1)=true;rw[hfg { key:=encN q.1,val:=q.2,born:=0 } n vv e2,e]
  rw[e2];exact cnt_keys h4 mem fun p hp=>hg p hp
 refine⟨fun e he'=>?_,cnt lfE isLf (fun e n vv h=>lfE_nd h) (fun p hp=>by rw[hp];rfl),cnt (fun e=>!lfE e) isBrn (fun e n vv h=>by rw[lfE_nd h];cases n <;> rfl) (fun p hp=>by rw[hp,Bool.or_true]),h5,h6⟩;obtain⟨q,hq,e1⟩:=ent e he';obtain⟨n,vv,_,hp,e2,ov⟩:=key q hq;exact⟨q.1,n,vv,hp,e1.trans e2,ov⟩
theorem ents_rc {s:Sup}{cv vv fv bv:Value}{pg:Nat→Option Pg}(h:SgM u w sb iv im s mn mr cv vv fv bv nl rl pg k fs){es:Array MapEntry}(he:w.heap[mr]?=some (.map es c)):es.size=(chK pg k).length:=by
 obtain⟨es',c',h1,h2,h3,h4,h5,h6⟩:=id h.rcs;rw[he]at h1;cases h1
 have hlen:es.size=(rl.map (·.1)).length:=by
  have:=congrArg List.length h2;rw[zW,zW]at this;rw[zW,← this,zK]
 rw[hlen];refine List.Perm.length_eq ((vP h4 (show (chK pg k).Nodup from by unfold chK;exact List.nodup_range.filter _)).2 fun p=>?_);unfold chK;rw[List.mem_filter,List.mem_range];have hn:=h.ra p;constructor
 ·intro hp
  have hf:findM rl p≠none:=fun e=>qKr.1 e hp;split at hn
  ·rename_i r e
   by_cases hl:p<k
   ·rw[if_pos hl]at e;exact⟨hl,by rw[e];rfl⟩
   ·rw[if_neg hl]at e;cases e
  ·exact absurd hn hf
 ·rintro⟨hl,hp⟩
  refine Classical.byContradiction fun hc=>?_;rw[if_pos hl,qKr.2 hc]at hn
  cases hg:pg p with
  | none=>rw[hg]at hp;cases hp
  | some g =>
   rw[hg]at hn hp
   cases g with
   | nd n=>cases hp
   | rc r=>cases hn
def ckI (w2:World)(w0:Nat)(sb b r mn:Nat)(es:Array MapEntry)(c:Nat)(LV BR:Nat)(C:Nat→Nat→Array Value)(n:Nat)(vs:List Value)(w:World):Prop :=
 ∃ (seen:Array Nat) (lv br:Nat),vs=[pt w0 0,pt sb 0,pt b 0,pt r 0]∧It w r mn es c seen∧n=(leftOf es seen).toList.length∧lv+(leftOf es seen).toList.countP lfE=LV∧br+(leftOf es seen).toList.countP (fun e=>!lfE e)=BR∧w.heap[b]?=some (.cells (C lv br) 25 (0,0))∧No w2 w
theorem rec_is {s:Sup}{cv vv fv bv:Value}{pg:Nat→Option Pg}(h:SgM u w sb iv im s mn mr cv vv fv bv nl rl pg s.mark fs)(ho:LkOk u sb iv s pg)(p:Nat):lookO prog 69 w (.map (some mr)) (.int .i64 (p:Nat))=some (.agg (rcC (rcAt pg p)).toArray,isRc (pg p)):=by
 have lk:=h.rcs.look keyN (k:=p) trivial map69 (z:=.agg (rcC rc00).toArray) (by kernel_rfl);have hr:=h.ra p
 have hp:(if p<s.mark then pg p else none)=pg p:=by
  by_cases hl:p<s.mark
  ·rw[if_pos hl]
  ·rw[if_neg hl,ho.hpg p (by omega)]
 rw[hp]at hr;unfold rcAt;split at hr
 ·rename_i r e;rw[hr]at lk;rw[e];exact lk
 ·rename_i e
  rw[hr]at lk;split
  ·rename_i r e';exact absurd e' (e r)
  ·rename_i e'
   have:isRc (pg p)=false:=by
    unfold isRc;split
    ·rename_i r e'';exact absurd e'' (e r)
    ·rfl
   rw[this];exact lk
def Ck4 (w0 w2:World)(sb:Nat)(rc:Value)(x2 x4 x6:Value)(w:World):Prop :=
 x2=pt w0.heap.size 0∧x4=pt sb 0∧∃ b,x6=pt b 0∧w2.heap.size≤b∧No w0 w∧w.heap[w0.heap.size]?=some (.cells rp0 25 (0,0))∧w.heap[b]?=some (.cells rc.cells 25 (0,0))
theorem check (w:World)(ht:Tabs w)(hi:By w iv im)(hl:im.length≤2 ^ 47) :
  Fn prog 8 #[iv] w fun v w'=>CkQ w im v w':=by
 refine go8 (by simp) ?_;obtain⟨W,hW,f1,k1,s1⟩:=qQl w rp0 25;have f1':=f1;have zz:Array.replicate 9 (yL .i64 0)++#[Value.slice none 0 0]=rp0:=by kernel_rfl
 simp -implicitDefEqProofs only[go_sem,jY,jH,Tryz.f8,zz,hW];refine qQa pl23 ((look W (ht.no f1) (hi.fr0 f1) hl).mono ?_);rintro v w2 hq;unfold LkQ at hq
 cases hlook:lookP im with
 | error e =>
  rw[hlook]at hq;obtain⟨rfl,f2⟩:=hq;have ne:=qKp hlook;have k2:=f2.at k1 id;have q2:wrO prog 25 w2 w.heap.size 0 (.agg rp0)=some (put w2 w.heap.size (.cells rp0 25 (0,0))):=qQr sz25 k2 rfl (by rw[← vM];rfl);have k3:=qQd (o:=.cells rp0 25 (0,0)) k2;have ld:=qQo (P:=prog) (t:=25) agg25 sz25 k3;simp -implicitDefEqProofs only[go_sem,jY,gLa,gLz,gLs,ne,bldRp0,q2,ld];unfold CkQ;rw[hlook];exact⟨(f1.trans f2).put (b:=w.heap.size) _ fun h=>by omega,rfl⟩
 | ok y =>
  obtain⟨s,fs⟩:=y;rw[hlook]at hq;obtain⟨sb,mn,mr,cv,vv,nl,rl,rfl,ho,hE⟩:=hq;obtain⟨⟨f2,fv,bv,hS,hb⟩,_⟩:=hE;have k2:=f2.at k1 id;have c00:((0:Int) != 0)=false:=rfl;simp -implicitDefEqProofs only[go_sem,jY,gLa,gLz,gLs,bNe];obtain⟨esR,cR,mR1,mR2,mR3,mR4,mR5,mR6⟩:=id hS.rcs;obtain⟨fa,fcap,hfv,hfcap⟩:=hS.fnd.rd.slice;refine qXc (Q:=fun e ev w5=>e=.normal∧Ck4 w w2 sb (.agg (rpC s.width s.pages s.mark s.head 0 0 0 0 esR.size (.slice fa (fnR fs).length fcap))) (ev 2) (ev 4) (ev 6) w5∧No w2 w5) _ (fun e ev w5=>?_) ?_
  ·rintro⟨rfl,⟨e2,e4,b6,e6,hb6,f5,k5,k6⟩,f25⟩
   rw[thenQ_normal];have hS5:=hS.fr0 f25;obtain⟨esN,cN,m1,_⟩:=id hS5.nds;obtain⟨he1,he2,he3,he4,he5⟩:=ents_nd hS5 m1;have r6:rdO prog 68 w5 sb 6=some (.map (some mn)):=rd1 agg68 hS5.row rfl;simp -implicitDefEqProofs only[go_sem,zB,e4,r6];obtain⟨q1,it1,f1⟩:=range_it (P:=prog) (mapUnd map68) m1 he4 he5;refine qQj ⟨_,_,q1,?_⟩;simp -implicitDefEqProofs only[go_sem];refine loopD [2,4,6,54] (ckI w2 w.heap.size sb b6 w5.heap.size mn esN cN (cntP isLf (pgF im s.mark) s.mark) (cntP isBrn (pgF im s.mark) s.mark) fun lv br=>rpC s.width s.pages s.mark s.head 0 0 lv br esR.size (.slice fa (fnR fs).length fcap)) esN.toList.length ⟨#[],0,0,?_,it1,by rw[qVa],by rw[qVa,zB];exact he2,by rw[qVa,zB];exact he3,f1.at k6 id,f25.trans f1⟩ ?_
   ·show [_,_,_,_]=_
    simp -implicitDefEqProofs only[go_sem,jY,e2,e4,e6]
   rintro _ vs w6 g ⟨seen,lv,br,rfl,hit,rfl,h1,h2,kb,f26⟩;simp -implicitDefEqProofs only[go_sem,jY];refine qQj (It.next hit ?_ ?_)
   ·intro hnil
    simp -implicitDefEqProofs only[go_sem,gLa,gLz];have hlv:lv=cntP isLf (pgF im s.mark) s.mark:=by rw[hnil]at h1;exact h1
    have hbr:br=cntP isBrn (pgF im s.mark) s.mark:=by rw[hnil]at h2;exact h2
    subst hlv;subst hbr;have hS6:=hS.fr0 f26;have hesR:esR.size=(chK (pgF im s.mark) s.mark).length:=ents_rc hS mR1;rw[hesR]at kb;clear hit h1 h2;refine qXf (fun j=>j == 13) (.row [0,1,2,4,5,6,7,3,8,9,10,11,12,13,14,15]) rfl (by kernel_rfl) (by kernel_rfl) ?_;have hS6:=hS6.fr0 ((Fr.refl _ _).drew);have kb:w6.drew.heap[b6]?=_:=kb;have f26:=f26.drew;generalize w6.drew=w7 at *;have r7:rdO prog 69 w7 sb 7=some (.map (some mr)):=rd1 agg69 hS6.row rfl;have r4:rdO prog 3 w7 sb 4=some (.int .i64 (s.head:Nat)):=rd1 agg3 hS6.row rfl;have lk:=rec_is hS6 ho s.head;obtain⟨W8,hW8,f8,k8,s8⟩:=qQl w7 (rcC rc00).toArray 80;generalize hrr:rcAt (pgF im s.mark) s.head=rr at *;have rl:(rcC rr).length=38:=qXh (by rw[← hrr];exact rcAt_len ho _);have q8:wrO prog 80 W8 w7.heap.size 0 (.agg (rcC rr).toArray)=some (put W8 w7.heap.size (.cells (rcC rr).toArray 80 (0,0))):=qQr (by simp[rl];exact sz80) k8 (by simp[rl,qXh (r:=rc00) z32l]) (by simpa using qJp _);have k9:=qQd (o:=.cells (rcC rr).toArray 80 (0,0)) k8;have f9:No w7 (put W8 w7.heap.size (.cells (rcC rr).toArray 80 (0,0))):=f8.put (b:=w7.heap.size) _ fun h=>by omega
    have hz:=rcZero;have e8:=f8.ext;simp -implicitDefEqProofs only[go_sem,jY,jG,y7,gLa,gLz,gLs,jH,bSe,zB,qQk,OT.row,r7,r4,lk,hz,hW8,q8,e8,implies_true];generalize put W8 w7.heap.size (.cells (rcC rr).toArray 80 (0,0))=W9 at *;have kb9:=f9.at kb id;have kz9:=f9.at ((show No w2 w7 from f26).at k2 id) id;have n29:=f26.trans f9;have hne:b6≠w.heap.size:=by have:=qQh k2;omega
    have tail:∀ (ft lt:Nat) (W:World), No w2 W→W.heap[b6]?=some (.cells (rpC s.width s.pages s.mark s.head ft lt (cntP isLf (pgF im s.mark) s.mark) (cntP isBrn (pgF im s.mark) s.mark) (chK (pgF im s.mark) s.mark).length (.slice fa (fnR fs).length fcap)) 25 (0, 0)) →
      ft=(if isRc (pgF im s.mark s.head) then rr.first else 0)→lt=(if isRc (pgF im s.mark s.head) then rr.ver else 0) →
      rdO prog 25 W b6 0=some (.agg (rpC s.width s.pages s.mark s.head ft lt (cntP isLf (pgF im s.mark) s.mark) (cntP isBrn (pgF im s.mark) s.mark) (chK (pgF im s.mark) s.mark).length (.slice fa (fnR fs).length fcap))) ∧
      ∃ W',wrO prog 25 W w.heap.size 0 (.agg (rpC s.width s.pages s.mark s.head ft lt (cntP isLf (pgF im s.mark) s.mark) (cntP isBrn (pgF im s.mark) s.mark) (chK (pgF im s.mark) s.mark).length (.slice fa (fnR fs).length fcap)))=some W' ∧
       rdO prog 25 W' w.heap.size 0=some (.agg (rpC s.width s.pages s.mark s.head ft lt (cntP isLf (pgF im s.mark) s.mark) (cntP isBrn (pgF im s.mark) s.mark) (chK (pgF im s.mark) s.mark).length (.slice fa (fnR fs).length fcap))) ∧
       CkQ w im (.tuple #[.agg (rpC s.width s.pages s.mark s.head ft lt (cntP isLf (pgF im s.mark) s.mark) (cntP isBrn (pgF im s.mark) s.mark) (chK (pgF im s.mark) s.mark).length (.slice fa (fnR fs).length fcap)),.int .i64 0]) W':=fun ft lt W f k hft hlt=>by
     have kz:=f.at k2 id;have k':=qQd (o:=.cells (rpC s.width s.pages s.mark s.head ft lt (cntP isLf (pgF im s.mark) s.mark) (cntP isBrn (pgF im s.mark) s.mark) (chK (pgF im s.mark) s.mark).length (.slice fa (fnR fs).length fcap)) 25 (0,0)) kz;have fW:Fr (fun b=>b=w.heap.size) w2 (put W w.heap.size (.cells (rpC s.width s.pages s.mark s.head ft lt (cntP isLf (pgF im s.mark) s.mark) (cntP isBrn (pgF im s.mark) s.mark) (chK (pgF im s.mark) s.mark).length (.slice fa (fnR fs).length fcap)) 25 (0,0))):=(f.mono fun _ _ h=>h.elim).put (b:=w.heap.size) _ fun _=>rfl;refine⟨qQo (P:=prog) (t:=25) agg25 sz25 k,_,qQr sz25 kz rfl (by rw[← vM];rfl),qQo (P:=prog) (t:=25) agg25 sz25 k',(f1'.trans f2).trans' fW (fun b hb e=>by subst e;exact Nat.lt_irrefl _ hb),?_⟩;rw[hlook];refine⟨.slice fa (fnR fs).length fcap,?_,?_⟩
     ·show Value.tuple _=_
      rw[hrr,hft,hlt]
     ·have hn:=hS.fnd
      rw[hfv]at hn;refine (hn.back f1'.size).fr fW fun b hb e=>?_;have:=(hn.lt hb).1;subst e;have:=s1;omega
    by_cases hrc:isRc (pgF im s.mark s.head)=true
    ·rw[hrc]
     simp -implicitDefEqProofs only[go_sem];refine qXf (fun _=>false) (.one 0 (.one 2 (.one 1 (.one 4 (.two 3 (.row [5,6,7]) 5 (.row [3,6,7])))))) rfl (by kernel_rfl) (by kernel_rfl) ?_;have kb9:W9.drew.heap[b6]?=_:=kb9;have k9:W9.drew.heap[w7.heap.size]?=_:=k9;have n29:=n29.drew;have hn7:w7.heap.size≠b6:=by have:=qQh kb;omega
     generalize W9.drew=W9 at *;have a0:rdO prog 3 W9 w7.heap.size 0=some (.int .i64 (rr.ver:Nat)):=rd1 agg3 k9 rfl;have a1:rdO prog 3 W9 w7.heap.size 1=some (.int .i64 (rr.first:Nat)):=rd1 agg3 k9 rfl;have q4:wrO prog 3 W9 b6 4 (.int .i64 (rr.first:Nat))=some (put W9 b6 (.cells (rpC s.width s.pages s.mark s.head rr.first 0 (cntP isLf (pgF im s.mark) s.mark) (cntP isBrn (pgF im s.mark) s.mark) (chK (pgF im s.mark) s.mark).length (.slice fa (fnR fs).length fcap)) 25 (0,0))):=wr1 sz3 rfl kb9 (show 4<10 by decide);have kc:=qQd (o:=.cells (rpC s.width s.pages s.mark s.head rr.first 0 (cntP isLf (pgF im s.mark) s.mark) (cntP isBrn (pgF im s.mark) s.mark) (chK (pgF im s.mark) s.mark).length (.slice fa (fnR fs).length fcap)) 25 (0,0)) kb9;have kd:=qQi (b:=b6) (o:=.cells (rpC s.width s.pages s.mark s.head rr.first 0 (cntP isLf (pgF im s.mark) s.mark) (cntP isBrn (pgF im s.mark) s.mark) (chK (pgF im s.mark) s.mark).length (.slice fa (fnR fs).length fcap)) 25 (0,0)) k9 hn7.symm;have n3:=n29.put (b:=b6) (.cells (rpC s.width s.pages s.mark s.head rr.first 0 (cntP isLf (pgF im s.mark) s.mark) (cntP isBrn (pgF im s.mark) s.mark) (chK (pgF im s.mark) s.mark).length (.slice fa (fnR fs).length fcap)) 25 (0,0)) fun h=>by omega
     generalize put W9 b6 (.cells (rpC s.width s.pages s.mark s.head rr.first 0 (cntP isLf (pgF im s.mark) s.mark) (cntP isBrn (pgF im s.mark) s.mark) (chK (pgF im s.mark) s.mark).length (.slice fa (fnR fs).length fcap)) 25 (0,0))=WA at *;have a0':rdO prog 3 WA w7.heap.size 0=some (.int .i64 (rr.ver:Nat)):=rd1 agg3 kd rfl;have q5:wrO prog 3 WA b6 5 (.int .i64 (rr.ver:Nat))=some (put WA b6 (.cells (rpC s.width s.pages s.mark s.head rr.first rr.ver (cntP isLf (pgF im s.mark) s.mark) (cntP isBrn (pgF im s.mark) s.mark) (chK (pgF im s.mark) s.mark).length (.slice fa (fnR fs).length fcap)) 25 (0,0))):=wr1 sz3 rfl kc (show 5<10 by decide);have ke:=qQd (o:=.cells (rpC s.width s.pages s.mark s.head rr.first rr.ver (cntP isLf (pgF im s.mark) s.mark) (cntP isBrn (pgF im s.mark) s.mark) (chK (pgF im s.mark) s.mark).length (.slice fa (fnR fs).length fcap)) 25 (0,0)) kc;have n4:=n3.put (b:=b6) (.cells (rpC s.width s.pages s.mark s.head rr.first rr.ver (cntP isLf (pgF im s.mark) s.mark) (cntP isBrn (pgF im s.mark) s.mark) (chK (pgF im s.mark) s.mark).length (.slice fa (fnR fs).length fcap)) 25 (0,0)) fun h=>by omega
     generalize put WA b6 (.cells (rpC s.width s.pages s.mark s.head rr.first rr.ver (cntP isLf (pgF im s.mark) s.mark) (cntP isBrn (pgF im s.mark) s.mark) (chK (pgF im s.mark) s.mark).length (.slice fa (fnR fs).length fcap)) 25 (0,0))=WB at *;obtain⟨ra,Wt,q10,rb,hq⟩:=tail rr.first rr.ver WB n4 ke (by rw[hrc];rfl) (by rw[hrc];rfl);simp -implicitDefEqProofs only[go_sem,jY,gLa,gLz,gLs,zB,OT.row,a0,a1,a0',q4,q5,ra,q10,rb,implies_true,true_and]
     first | exact hq | exact⟨hq,hq⟩
    ·rw[Bool.not_eq_true]at hrc
     obtain⟨ra,Wt,q10,rb,hq⟩:=tail 0 0 W9 n29 kb9 (by rw[hrc];rfl) (by rw[hrc];rfl);rw[hrc];simp -implicitDefEqProofs only[go_sem,jY,ra,q10,rb];exact hq
   ·intro e w7 he hit7 f7
    simp -implicitDefEqProofs only[go_sem,jY,gLa,gLz];refine qQj ⟨_,_,hit7.entry (left_mem he),?_⟩;obtain⟨p,nd,vv7,hpn,hev,ov⟩:=he1 e (left_mem he);have hnr:=(ho.hnd p nd hpn).2;have hle:=lfE_nd hev;obtain⟨W8,hW8,f8,k8,s8⟩:=qQl w7 nd0.toArray 78;have zz:#[.int .i64 0,.int .i64 0,.int .i64 0,.int .i64 0,.int .i64 0]++bl (List.replicate 96 0)++#[.slice none 0 0]=nd0.toArray:=ndZero;have q8:wrO prog 78 W8 w7.heap.size 0 (.agg (ndA nd vv7).toArray)=some (put W8 w7.heap.size (.cells (ndA nd vv7).toArray 78 (0,0))):=qQr (by simp[qZm hnr];exact sz78) k8 (by simp[qZm hnr,qQz z32l z32l z32l]) (by simpa using ndA_one ov);have k9:=qQd (o:=.cells (ndA nd vv7).toArray 78 (0,0)) k8;have f9:No w7 (put W8 w7.heap.size (.cells (ndA nd vv7).toArray 78 (0,0))):=f8.put (b:=w7.heap.size) _ fun h=>by omega
    rw[hev];simp -implicitDefEqProofs only[go_sem,jY,gLa,gLz,gLs,jH,zB,qQk,zz,hW8,q8];generalize put W8 w7.heap.size (.cells (ndA nd vv7).toArray 78 (0,0))=W9 at *;have hmn:mn≠b6:=fun e=>by subst e;rw[k6]at m1;cases m1
    have hbr:b6≠w5.heap.size:=by have:=qQh k6;omega
    have kb7:=f7.at kb hbr;have kb9:=f9.at kb7 id;have hit9:=hit7.fr f9 id id;have f29:No w2 W9:=(f26.trans' f7 fun b hb e=>by subst e;have:=f25.size;omega).trans f9
    have hp:=(hit.took he)
    have hc1:=hp.countP_eq lfE;have hc2:=hp.countP_eq fun e=>!lfE e;have hln:=hp.length_eq;rw[List.countP_cons]at hc1 hc2;rw[zU]at hln;rw[hle]at hc1 hc2;have lvb:lv≤4096:=by have:=cntP_le isLf (pgF im s.mark) s.mark;have:=ho.hm;omega
    have brb:br≤4096:=by have:=cntP_le isBrn (pgF im s.mark) s.mark;have:=ho.hm;omega
    cases nd with
    | leaf kk vl =>
     have e11:((1:Int) == 1)=true:=rfl;have e67:rdO prog 3 W9 b6 6=some (.int .i64 (lv:Nat)):=rd1 agg3 kb9 rfl;have i67:=iSu (i:=lv);have q67:wrO prog 3 W9 b6 6 (.int .i64 ((lv+1:Nat):Int))=some (put W9 b6 (.cells (rpC s.width s.pages s.mark s.head 0 0 (lv+1) br esR.size (.slice fa (fnR fs).length fcap)) 25 (0,0))):=wr1 sz3 rfl kb9 (show 6<10 by decide);simp -implicitDefEqProofs only[go_sem,jY,bSe,zB,(rdLf hnr.1 k9).1,e67,i67,q67];refine⟨_,?_,seen.push e.born,lv+1,br,rfl,hit9.fr ((Fr.refl (fun b=>b=b6) _).put (b:=b6) _ fun _=>rfl) ?_ ?_,rfl,?_,?_,qQd kb9,f29.put (b:=b6) _ fun h=>by omega⟩
     ·omega
     ·exact fun e=>hbr e.symm
     ·exact hmn
     ·rw[if_pos (by simp[isLf])]at hc1;omega
     ·rw[if_neg (by simp[isLf])]at hc2;omega
    | br lp rp lc rc ls rs =>
     have e11:((2:Int) == 1)=false:=rfl;have e67:rdO prog 3 W9 b6 7=some (.int .i64 (br:Nat)):=rd1 agg3 kb9 rfl;have i67:=iSu (i:=br);have q67:wrO prog 3 W9 b6 7 (.int .i64 ((br+1:Nat):Int))=some (put W9 b6 (.cells (rpC s.width s.pages s.mark s.head 0 0 lv (br+1) esR.size (.slice fa (fnR fs).length fcap)) 25 (0,0))):=wr1 sz3 rfl kb9 (show 7<10 by decide);simp -implicitDefEqProofs only[go_sem,jY,zB,(rdBr hnr.2.1 hnr.2.2 k9).1,e11,e67,i67,q67];refine⟨_,?_,seen.push e.born,lv,br+1,rfl,hit9.fr ((Fr.refl (fun b=>b=b6) _).put (b:=b6) _ fun _=>rfl) ?_ ?_,rfl,?_,?_,qQd kb9,f29.put (b:=b6) _ fun h=>by omega⟩
     ·omega
     ·exact fun e=>hbr e.symm
     ·exact hmn
     ·rw[if_neg (by simp[isLf])]at hc1;omega
     ·rw[if_pos (by simp[isLf])]at hc2;omega
  refine qXf (fun j=>j == 24 || j == 30) (.one 0 (.one 1 (.one 2 (.one 3 (.one 5 (.one 6 (.one 7 (.one 8 (.one 10 (.one 11 (.one 12 (.one 13 (.one 15 (.one 16 (.one 17 (.one 18 (.one 20 (.one 21 (.one 22 (.one 25 (.one 26 (.one 27 (.one 4 (.one 9 (.one 14 (.one 19 (.one 23 (.one 28 (.two 24 (.row [29,30,31]) 30 (.row [24,29,31])))))))))))))))))))))))))))))) rfl (by kernel_rfl) (by kernel_rfl) ?_;have mR1:w2.drew.heap[mr]?=_:=mR1;have f0:No w2 w2.drew:=(Fr.refl _ _).drew;have s23:=f0.size;have hS:=hS.fr0 (Fr.refl _ _).drew;have f3:=(f1.trans f2).drew;have k3:w2.drew.heap[w.heap.size]?=_:=k2;have hu:No W w2.drew:=f2.drew;generalize w2.drew=w3 at *;have r1:rdO prog 3 w3 sb 1=some (.int .i64 (s.width:Nat)):=rd1 agg3 hS.row rfl;have r3:rdO prog 3 w3 sb 3=some (.int .i64 (s.mark:Nat)):=rd1 agg3 hS.row rfl;have r4:rdO prog 3 w3 sb 4=some (.int .i64 (s.head:Nat)):=rd1 agg3 hS.row rfl;have r5:rdO prog 3 w3 sb 5=some (.int .i64 (s.pages:Nat)):=rd1 agg3 hS.row rfl;have r7:rdO prog 69 w3 sb 7=some (.map (some mr)):=rd1 agg69 hS.row rfl;have r10:rdO prog 23 w3 sb 10=some (.slice fa (fnR fs).length fcap):=by rw[← hfv];exact rd1 agg23 hS.row rfl
  have hln:=lenMap map69 (ty:=3) mR1;obtain⟨W4,hW4,f4,k4,s4⟩:=qQl w3 rp0 25;have zz:Array.replicate 9 (yL .i64 0)++#[Value.slice none 0 0]=rp0:=by kernel_rfl
  have bRp:=bldRp s.width s.pages s.mark s.head esR.size fa (fnR fs).length fcap;have q4:wrO prog 25 W4 w3.heap.size 0 (.agg (rpC s.width s.pages s.mark s.head 0 0 0 0 esR.size (.slice fa (fnR fs).length fcap)))=some (put W4 w3.heap.size (.cells (rpC s.width s.pages s.mark s.head 0 0 0 0 esR.size (.slice fa (fnR fs).length fcap)) 25 (0,0))):=qQr sz25 k4 rfl (by rw[← vM];rfl);have fe:=f4.ext;simp -implicitDefEqProofs only[go_sem,jY,jG,y7,gLa,gLz,gLs,jH,bSe,zB,Nat.add_zero,OT.row,r1,r3,r4,r5,r7,r10];have gi:goInt esR.size=.int .i64 (esR.size:Nat):=rfl;have hln4:=lenMap map69 (ty:=3) ((f4.blk mr (qQh mR1) id).trans mR1);have kf:=qQd (o:=.cells (rpC s.width s.pages s.mark s.head 0 0 0 0 esR.size (.slice fa (fnR fs).length fcap)) 25 (0,0)) k4;have ff:=f4.put (b:=w3.heap.size) (.cells (rpC s.width s.pages s.mark s.head 0 0 0 0 esR.size (.slice fa (fnR fs).length fcap)) 25 (0,0)) fun h=>by omega
  have kg:=ff.at k3 id;refine⟨?_,?_⟩
  ·refine qZq ⟨_,_,hln,?_⟩
   refine⟨fun _=>(Fr.refl (fun _=>False) _).ext,?_⟩;rw[gi];simp -implicitDefEqProofs only[go_sem,jY,jG,gLa,gLz,gLs,jH,bSe,bRp,zz,hW4,q4,fe,implies_true];exact⟨⟨rfl,rfl,w3.heap.size,rfl,s23,f3.trans ff,kg,kf⟩,f0.trans ff⟩
  ·simp -implicitDefEqProofs only[go_sem,zz,hW4]
   refine qZq ⟨_,_,hln4,?_⟩;refine⟨fun _=>(Fr.refl (fun _=>False) _).ext,?_⟩;rw[gi];simp -implicitDefEqProofs only[go_sem,jY,jG,gLa,gLz,gLs,bRp,q4];exact⟨⟨rfl,rfl,w3.heap.size,rfl,s23,f3.trans ff,kg,kf⟩,f0.trans ff⟩
end A
end
section
namespace A
open Aud
def ClQ (u:World)(iv:Value)(im:Bs)(v:Value)(w:World):Prop :=
 match lookP im with
 | .error e=>v=.tuple #[.pointer none,.int .i64 e]∧No u w
 | .ok (s,fs)=>∃ sb mn mr cv vv nl rl,v=.tuple #[pt sb 0,.int .i64 (if fs=[] then 0 else 4)]∧LkOk u sb iv s (pgF im s.mark)∧ErrL u sb iv im s mn mr cv vv nl rl (pgF im s.mark) fs w∧(fs=[]→VsM u w vv (trsP s.width (pgF im s.mark) (chK (pgF im s.mark) s.mark) (chK (pgF im s.mark) s.mark).length))
theorem cleanW (w:World)(ht:Tabs w)(hi:By w iv im)(hl:im.length≤2 ^ 47) :
  Fn prog 32 #[iv] w fun v w'=>ClQ w iv im v w':=by
 refine go32 (by simp) ?_;simp -implicitDefEqProofs only[go_sem,jY,Tryz.f32];refine qQa pl23 ((look w ht hi hl).mono ?_);rintro v w2 hq;unfold LkQ at hq
 cases hlook:lookP im with
 | error e =>
  rw[hlook]at hq;obtain⟨rfl,f2⟩:=hq;have ne:(e == 0)=false:=by have:=qKp hlook;simpa using this
  simp -implicitDefEqProofs only[go_sem,jY,gLa,gLz,gLs,qQt,ne];unfold ClQ;rw[hlook];exact⟨rfl,f2⟩
 | ok y =>
  obtain⟨s,fs⟩:=y;rw[hlook]at hq;obtain⟨sb,mn,mr,cv,vv,nl,rl,rfl,ho,hE,hV⟩:=hq;obtain⟨f2,fv,bv,hS,hb⟩:=id hE;have c00:((0:Int) == 0)=true:=rfl;obtain⟨fa,fcap,hfv,hfcap⟩:=hS.fnd.rd.slice;rw[fnR_len]at hfv hfcap;have rf:rdO prog 23 w2 sb 10=some (.slice fa fs.length fcap):=by rw[← hfv];exact rd1 agg23 hS.row rfl
  have d0:decide ((fs.length:Int) > 0)=decide (0<fs.length):=natlt 0 fs.length
  by_cases h0:fs=[]
  ·rw[decide_eq_false (show ¬ 0<fs.length by rw[h0];decide)]at d0
   simp -implicitDefEqProofs only[go_sem,jY,gLa,gLz,gLs,bSe,zB,rf,d0];unfold ClQ;rw[hlook];exact⟨sb,mn,mr,cv,vv,nl,rl,by rw[if_pos h0],ho,hE,hV⟩
  ·rw[decide_eq_true (show 0<fs.length by cases fs with | nil=>exact absurd rfl h0 | cons a r=>simp)]at d0
   simp -implicitDefEqProofs only[go_sem,jY,gLa,gLz,gLs,bSe,zB,rf,d0];unfold ClQ;rw[hlook];exact⟨sb,mn,mr,cv,vv,nl,rl,by rw[if_neg h0],ho,hE,hV⟩
def numP (n:Nat)(h:Rc)(v:Int):Except Int Int :=
 if (if v = -1 then (h.ver:Int) else v)<0∨(h.ver:Int)<(if v = -1 then (h.ver:Int) else v) then .error 151
 else if (if v = -1 then (h.ver:Int) else v)<h.first then .error 152
 else .ok ((n:Int) - (h.ver - (if v = -1 then (h.ver:Int) else v)))
def numV:Except Int Int→Value
 | .error e=>.tuple #[.int .i64 0,.int .i64 e]
 | .ok i=>.tuple #[.int .i64 i,.int .i64 0]
def Nu1 (w0:World)(sb:Nat)(r:Rc)(v:Int)(x0 x1 x6:Value)(w:World):Prop :=
 x0=pt sb 0∧x1=.int .i64 v∧∃ b,x6=pt b 0∧w.heap[b]?=some (.cells (rcC r).toArray 80 (0,0))∧No w0 w
section
variable {u w w':World} {sb:Nat} {iv:Value} {im:Bs} {s:Sup} {mn mr:Nat} {cv vv fv bv:Value} {nl rl:List (Nat × Value)} {pg:Nat→Option Pg} {k:Nat} {fs:List (Nat × Int)}
theorem numberW (h:SgM u w sb iv im s mn mr cv vv fv bv nl rl pg s.mark fs)(ho:LkOk u sb iv s pg)(v:Int) :
  Fn prog 33 #[pt sb 0,.int .i64 v] w fun r w'=>r=numV (numP (chK pg s.mark).length (rcAt pg s.head) v)∧No w w':=by
 refine go33 (by simp) ?_;have hrr:(rcAt pg s.head).sum.length=32:=rcAt_len ho _
 have hvr:(rcAt pg s.head).ver≤2 ^ 30:=by
  unfold rcAt;split
  ·rename_i r h;obtain⟨_,hr,_⟩:=ho.hrc _ _ h;exact hr.2.2.1
  ·exact zE _
 simp -implicitDefEqProofs only[go_sem,zB,Tryz.f33];refine qXc (Q:=fun e ev w5=>e=.normal∧Nu1 w sb (rcAt pg s.head) v (ev 0) (ev 1) (ev 6) w5) _ (fun e ev w5=>?_) ?_
 ·rintro⟨rfl,e0,e1,b,e6,k6,f5⟩
  rw[thenQ_normal];generalize rcAt pg s.head=r at *;have h5:=h.fr0 f5;have r0:rdO prog 3 w5 b 0=some (.int .i64 (r.ver:Nat)):=rd1 agg3 k6 rfl;have r1:rdO prog 3 w5 b 1=some (.int .i64 (r.first:Nat)):=rd1 agg3 k6 rfl;refine qXx (fun ev w5'=>w5'=w5∧ev 0=pt sb 0∧ev 6=pt b 0∧ev 1=.int .i64 (if v = -1 then (r.ver:Int) else v)) ?_ ?_
  ·by_cases hv:v = -1
   ·have c1:(v == -1)=true:=by simpa using hv
    simp -implicitDefEqProofs only[go_sem,jY,zB,e1,c1,e6,r0];rw[if_pos hv];exact⟨e0,rfl⟩
   ·have c1:(v == -1)=false:=by simpa using hv
    simp -implicitDefEqProofs only[go_sem,jY,e1,c1];rw[if_neg hv];exact⟨e0,e6,rfl⟩
  clear e0 e1 e6;rintro ev w9 ⟨hw9,e0,e6,e1⟩;obtain rfl:w5=w9:=hw9.symm;unfold numP;generalize (if v = -1 then (r.ver:Int) else v)=x at *
  by_cases hx0:x<0
  ·have d1:decide (x<0)=true:=decide_eq_true hx0
   simp -implicitDefEqProofs only[go_sem,jY,gLa,gLz,gLs,qXq,e1,d1];rw[if_pos (.inl hx0)];exact⟨rfl,f5⟩
  have d1:decide (x<0)=false:=decide_eq_false hx0
  by_cases hx1:(r.ver:Int)<x
  ·have d2:decide (x > (r.ver:Int))=true:=decide_eq_true hx1
   simp -implicitDefEqProofs only[go_sem,jY,gLa,gLz,gLs,bSe,zB,e1,d1,e6,r0,d2];rw[if_pos (.inr hx1)];exact⟨rfl,f5⟩
  have d2:decide (x > (r.ver:Int))=false:=decide_eq_false hx1;rw[if_neg (by omega)]
  by_cases hx2:x<(r.first:Int)
  ·have d3:decide (x<(r.first:Int))=true:=decide_eq_true hx2
   simp -implicitDefEqProofs only[go_sem,jY,gLa,gLz,gLs,bSe,zB,e1,d1,e6,r0,d2,r1,d3];rw[if_pos hx2];exact⟨rfl,f5⟩
  have d3:decide (x<(r.first:Int))=false:=decide_eq_false hx2;rw[if_neg hx2];obtain⟨a,cap,hcv,hcap⟩:=h5.chn.rd.slice;rw[qQv]at hcv hcap;have r8:rdO prog 45 w5.drew sb 8=some (.slice a (chK pg s.mark).length cap):=by rw[← hcv];exact rd1 agg45 (show w5.drew.heap[sb]?=_ from h5.row) rfl
  have r0':rdO prog 3 w5.drew b 0=some (.int .i64 (r.ver:Nat)):=r0;have hlk:=chK_len pg s.mark;have hm4:=ho.hm;have a1:IntKind.i64.wrap ((r.ver:Int) - x)=(r.ver:Int) - x:=qQm (by omega) (by omega);have a2:IntKind.i64.wrap (((chK pg s.mark).length:Int) - ((r.ver:Int) - x))=((chK pg s.mark).length:Int) - ((r.ver:Int) - x):=qQm (by omega) (by omega);simp -implicitDefEqProofs only[go_sem,jY,jG,gLa,gLz,gLs,bSe,zB,e1,d1,e6,r0,d2,r1,d3,e0,r8,r0',a1,a2];exact⟨rfl,f5.drew⟩
 ·refine qXf (fun j=>j == 9) (.one 0 (.one 1 (.one 2 (.one 4 (.one 5 (.one 6 (.one 7 (.tri 3 (.two 8 (.two 9 (.row [10,11]) 10 (.row [9,11])) 10 (.row [8,9,11])) 8 (.two 3 (.two 9 (.row [10,11]) 10 (.row [9,11])) 10 (.row [3,9,11])) 10 (.row [3,8,9,11]))))))))) rfl (by kernel_rfl) (by kernel_rfl) ?_
  have h1:=h.fr0 (Fr.refl _ _).drew;have f1:No w w.drew:=(Fr.refl _ _).drew;generalize w.drew=W1 at *;have r7:rdO prog 69 W1 sb 7=some (.map (some mr)):=rd1 agg69 h1.row rfl;have r4:rdO prog 3 W1 sb 4=some (.int .i64 (s.head:Nat)):=rd1 agg3 h1.row rfl;have lk:=rec_is h1 ho s.head;obtain⟨W8,hW8,f8,k8,s8⟩:=qQl W1 (rcC rc00).toArray 80;have h8:=h1.fr0 f8;have lk8:=rec_is h8 ho s.head;generalize rcAt pg s.head=rr at *;have r7':rdO prog 69 W8 sb 7=some (.map (some mr)):=rd1 agg69 h8.row rfl;have r4':rdO prog 3 W8 sb 4=some (.int .i64 (s.head:Nat)):=rd1 agg3 h8.row rfl;have rl:(rcC rr).length=38:=qXh hrr;have q8:wrO prog 80 W8 W1.heap.size 0 (.agg (rcC rr).toArray)=some (put W8 W1.heap.size (.cells (rcC rr).toArray 80 (0,0))):=qQr (by simp[rl];exact sz80) k8 (by simp[rl,qXh (r:=rc00) z32l]) (by simpa using qJp _);have k9:=qQd (o:=.cells (rcC rr).toArray 80 (0,0)) k8;have f9:No W1 (put W8 W1.heap.size (.cells (rcC rr).toArray 80 (0,0))):=f8.put (b:=W1.heap.size) _ fun h=>by omega
  have hz:=rcZero;have e8:=f8.ext
  have fin:Nu1 w sb rr v (pt sb 0) (.int .i64 v) (pt W1.heap.size 0) (put W8 W1.heap.size (.cells (rcC rr).toArray 80 (0,0))):=⟨rfl,rfl,_,rfl,k9,f1.trans f9⟩
  simp -implicitDefEqProofs only[go_sem,jY,jG,y7,gLa,gLz,gLs,jH,bSe,zB,qQk,OT.row,r7,r4,r7',r4',lk,lk8,hz,hW8,q8,e8,implies_true,true_and,and_self,fin]
end
def CntM (w:World)(ub:Nat)(S:Nat→Prop)(B:Nat):Prop:=∃ l:List (Nat × Value),Mp encN (fun _=>True) w ub l∧∀ p,(S p→∃ n:Nat,1≤n∧n≤B∧findM l p=some (.int .i64 (n:Nat)))∧(¬ S p→findM l p=none)
theorem CntM.new (h:w.heap[ub]?=some (.map #[] 0)):CntM w ub (fun _=>False) 0:=⟨[],Mp.new h,fun p=>⟨fun h=>h.elim,fun _=>rfl⟩⟩
theorem CntM.fr {w w':World}{F:Nat→Prop}(h:CntM w ub S B)(f:Fr F w w')(hf:¬ F ub):CntM w' ub S B:=by
 obtain⟨l,a,b⟩:=h;exact⟨l,a.fr f hf,b⟩
theorem CntM.ext {S T:Nat→Prop}{B C:Nat}(h:CntM w ub S B)(hs:∀ p,S p ↔ T p)(hb:B≤C):CntM w ub T C:=by
 obtain⟨l,a,b⟩:=h;refine⟨l,a,fun p=>⟨fun ht=>?_,fun ht=>(b p).2 fun hp=>ht ((hs p).1 hp)⟩⟩;obtain⟨n,h1,h2,h3⟩:=(b p).1 ((hs p).2 ht);exact⟨n,h1,by omega,h3⟩
theorem CntM.look (h:CntM w ub S B)(p:Nat):∃ (n:Nat) (ok:Bool),n≤B∧(n=0 ↔ ¬ S p)∧lookO prog 105 w (.map (some ub)) (.int .i64 (p:Nat))=some (.int .i64 (n:Nat),ok):=by
 obtain⟨l,a,b⟩:=h;have lk:=a.look keyN (k:=p) trivial map105 (z:=.int .i64 0) (by kernel_rfl)
 by_cases hp:S p
 ·obtain⟨n,h1,h2,h3⟩:=(b p).1 hp
  rw[h3]at lk;exact⟨n,true,h2,⟨fun e=>by omega,fun e=>absurd hp e⟩,lk⟩
 ·rw[(b p).2 hp]at lk
  exact⟨0,false,zE _,⟨fun _=>hp,fun _=>rfl⟩,lk⟩
theorem CntM.inc (h:CntM w ub S B)(p:Nat):∃ (n:Nat) (ok:Bool), n≤B∧lookO prog 105 w (.map (some ub)) (.int .i64 (p:Nat))=some (.int .i64 (n:Nat), ok) ∧
  ∃ ob,putE prog 3 w.heap[ub]? (.int .i64 (p:Nat)) (.int .i64 ((n+1:Nat):Int))=some ob∧CntM (put w ub ob) ub (fun q=>S q∨q=p) (B+1)∧Fr (fun b=>b=ub) w (put w ub ob):=by
 obtain⟨l,a,b⟩:=h;have lk:=a.look keyN (k:=p) trivial map105 (z:=.int .i64 0) (by kernel_rfl)
 have go:∀ (n:Nat),n≤B→∃ ob,putE prog 3 w.heap[ub]? (.int .i64 (p:Nat)) (.int .i64 ((n+1:Nat):Int))=some ob∧CntM (put w ub ob) ub (fun q=>S q∨q=p) (B+1)∧Fr (fun b=>b=ub) w (put w ub ob):=fun n hn=>by
  obtain⟨ob,h1,h2,h3⟩:=a.put keyN (k:=p) trivial (.int .i64 ((n+1:Nat):Int));obtain⟨es,cc,hm,_⟩:=id a;refine⟨ob,h1,⟨_,h3 _ (qQd hm),fun q=>⟨fun hq=>?_,fun hq=>?_⟩⟩,(Fr.refl _ _).put (b:=ub) ob (fun _=>rfl) h2⟩
  ·rw[qJi]
   by_cases e:p=q
   ·rw[if_pos e];exact⟨n+1,by omega,by omega,rfl⟩
   ·rw[if_neg e]
    obtain⟨m,h1,h2,h3⟩:=(b q).1 (hq.resolve_right fun h=>e h.symm);exact⟨m,h1,by omega,h3⟩
  ·rw[qJi,if_neg fun e=>hq (.inr e.symm)]
   exact (b q).2 fun h=>hq (.inl h)
 by_cases hp:S p
 ·obtain⟨n,h1,h2,h3⟩:=(b p).1 hp
  rw[h3]at lk;exact⟨n,true,h2,lk,go n h2⟩
 ·rw[(b p).2 hp]at lk
  exact⟨0,false,zE _,lk,go 0 (zE _)⟩
theorem nodup_le {α:Type}[DecidableEq α]:∀ {l m:List α},l.Nodup→(∀ x ∈ l,x ∈ m)→l.length≤m.length
 | [],_,_,_=>zE _
 | a::l,m,hn,h=>by
  rw[List.nodup_cons]at hn;have ha:=h a (jX ..);have:=nodup_le (l:=l) (m:=m.erase a) hn.2 fun x hx=>(List.mem_erase_of_ne (fun e=>hn.1 (by rw[← e];exact hx))).2 (h x (z7 _ hx));rw[List.length_erase_of_mem ha]at this;have:=List.length_pos_of_mem ha;rw[zU];omega
def rowsL:Nat→Bs→PT→List (Nat × Bs)
 | _,_,.nil=>[]
 | n,row,.leaf _ _ _=>[(n,row)]
 | n,row,.br _ l r=>(n,row)::(rowsL (n+1) (under n false row) l++rowsL (n+1) (under n true row) r)
theorem rowsL_len:∀ (t:PT) (n:Nat) (row:Bs),(rowsL n row t).length=t.pgs.length
 | .nil,_,_=>rfl
 | .leaf _ _ _,_,_=>rfl
 | .br p l r,n,row=>by
  show (rowsL _ _ l++rowsL _ _ r).length+1=(l.pgs++r.pgs).length+1;rw[lAp,lAp,rowsL_len,rowsL_len]
theorem rowsL_mem:∀ {t:PT} {n:Nat} {row:Bs} {key:Nat × Bs} {p:Nat},Aud.rowAt n row t key=some p→key ∈ rowsL n row t
 | .nil,_,_,_,_,h=>by cases h
 | .leaf q k v,n,row,key,p,h=>by
  unfold Aud.rowAt at h;split at h
  ·rename_i e;rw[e];exact List.mem_singleton.2 rfl
  ·cases h
 | .br q l r,n,row,key,p,h=>by
  unfold Aud.rowAt at h;split at h
  ·rename_i e;rw[e];exact jX ..
  ·rw[Option.or_eq_some_iff]at h
   rcases h with h | ⟨_,h⟩
   ·exact z7 _ (zN _ (rowsL_mem h))
   ·exact z7 _ (zP _ (rowsL_mem h))
theorem ents_row {mR:Nat}{rows:List (RK × Value)}{t:PT}(h:Mp encR okR w mR rows)(hr:∀ key, findM rows key=enP (Aud.rowAt 0 Aud.zrow t key)){es:Array MapEntry}(he:w.heap[mR]?=some (.map es c)) :
  (∀ e ∈ es.toList,∃ (key:RK) (p:Nat),Aud.rowAt 0 Aud.zrow t key=some p∧e.val=.int .i64 (p:Nat))∧(∀ (key:RK) (p:Nat),Aud.rowAt 0 Aud.zrow t key=some p→∃ e ∈ es.toList,e.val=.int .i64 (p:Nat))∧es.size≤t.pgs.length∧(∀ e ∈ es.toList,e.born<c)∧(es.toList.map (·.born)).Nodup:=by
 obtain⟨es',c',h1,h2,h3,h4,h5,h6⟩:=h;rw[he]at h1;cases h1
 have key:∀ q ∈ rows,∃ p:Nat,Aud.rowAt 0 Aud.zrow t q.1=some p∧q.2=.int .i64 (p:Nat):=fun q hq=>by
  have hf:=(findM_mem h4).2 (show (q.1,q.2) ∈ rows from hq);rw[hr]at hf
  cases hk:Aud.rowAt 0 Aud.zrow t q.1 with
  | none=>rw[hk]at hf;cases hf
  | some p=>rw[hk]at hf;exact⟨p,rfl,(Option.some.inj hf).symm⟩
 refine⟨fun e he'=>?_,fun k p hk=>?_,?_,h5,h6⟩
 ·have:=yW (f:=fun e:MapEntry=>(e.key,e.val)) he'
  rw[h2]at this;obtain⟨q,hq,e'⟩:=List.mem_map.1 this;obtain⟨p,a,b⟩:=key q hq;exact⟨q.1,p,a,(congrArg Prod.snd e').symm.trans b⟩
 ·have hf:=hr k
  rw[hk]at hf;have hm:=(findM_mem h4).1 (show findM rows k=some (.int .i64 (p:Nat)) from hf);have:=yW (f:=fun q:RK × Value=>(encR q.1,q.2)) hm;rw[← h2]at this;obtain⟨e,he',e'⟩:=List.mem_map.1 this;exact⟨e,he',congrArg Prod.snd e'⟩
 ·have hlen:es.size=(rows.map (·.1)).length:=by
   have:=congrArg List.length h2;rw[zW,zW]at this;rw[zW,← this,zK]
  rw[hlen,← rowsL_len t 0 Aud.zrow];refine nodup_le h4 fun x hx=>?_;obtain⟨q,hq,rfl⟩:=List.mem_map.1 hx;obtain⟨p,a,_⟩:=key q hq;exact rowsL_mem a
theorem vint_inj {p q:Nat}(h:yL .i64 (p:Nat)=.int .i64 (q:Nat)):p=q:=Int.ofNat_inj.1 (Value.int.inj h).2
def mkI (w1:World)(ub r mR:Nat)(es:Array MapEntry)(c:Nat)(S:Nat→Prop)(B:Nat)(n:Nat)(vs:List Value)(w:World):Prop :=
 ∃ (seen:Array Nat) (done:List MapEntry),vs=[.map (some ub),pt r 0]∧It w r mR es c seen∧n=(leftOf es seen).toList.length∧(done++(leftOf es seen).toList).Perm es.toList∧CntM w ub (fun q=>S q∨∃ e ∈ done,e.val=.int .i64 (q:Nat)) (B+done.length)∧Fr (fun b=>b=ub) w1 w
section
variable {u w w':World} {sb:Nat} {iv:Value} {im:Bs} {s:Sup} {mn mr:Nat} {cv vv fv bv:Value} {nl rl:List (Nat × Value)} {pg:Nat→Option Pg} {k:Nat} {fs:List (Nat × Int)}
theorem markSmall {i:Int}(hi:i<1)(x y:Value)(w:World):Fn prog 34 #[x,.int .i64 i,y] w fun v w'=>v=.tuple #[]∧w'=w:=by
 refine go34 (by simp) ?_;have d1:decide (i<1)=true:=decide_eq_true hi;simp -implicitDefEqProofs only[go_sem,jY,y7,zB,Tryz.f34,d1]
theorem markW {wL:World}(h:SgM u wL sb iv im s mn mr cv vv fv bv nl rl pg s.mark fs)(ho:LkOk u sb iv s pg)(hv:VsM u wL vv (trsP s.width pg (chK pg s.mark) (chK pg s.mark).length))(fL:No wL w){i:Nat}(h1:1≤i)(hi:i≤(chK pg s.mark).length)
  (hw:(trP s.width pg (chK pg s.mark) i).Wf 0) (hsm:(trP s.width pg (chK pg s.mark) i).pgs.length≤2 ^ 22) (hub:wL.heap.size≤ub) (hB:B≤2 ^ 40) (hc:CntM w ub S B) :
  Fn prog 34 #[pt sb 0,.int .i64 (i:Nat),.map (some ub)] w fun v w'=>v=.tuple #[]∧Fr (fun b=>b=ub) w w'∧CntM w' ub (fun p=>S p∨Aud.uses s.width pg (chK pg s.mark) i p) (B+2 ^ 23):=by
 refine go34 (by simp) ?_;have d1:=dFo ((i:Int)<1);have hlk:=chK_len pg s.mark;have hm4:=ho.hm;simp -implicitDefEqProofs only[go_sem,jY,y7,zB,Tryz.f34,d1];refine qQa pl66 ((qJk (h.fr0 fL) (i:=i) (by omega)).mono ?_);rintro _ w1 ⟨e1,rfl⟩;rw[e1];obtain⟨n,ok,hn,lk,ob,hp,hc2,f2⟩:=hc.inc (chAt (chK pg s.mark) i);have i1:=iSu (i:=n);simp -implicitDefEqProofs only[go_sem,jY,zB,lk,i1,hp];have fL2:No wL (put w ub ob):=fL.trans' f2 fun b hb e=>by subst e;exact absurd hub (by omega)
 generalize put w ub ob=w2 at *;have h2:=h.fr0 fL2;obtain⟨ps,hps,hpl,hsh⟩:=id hv;rw[trsP_len]at hpl;have rv:rdO prog 70 w2 sb 9=some vv:=rd1 agg70 h2.row rfl;have hrd:=(hps.fr0 fL2).rd;have hplen:(ps.map fun b=>[pt b 0]).length=(chK pg s.mark).length:=by rw[zW];exact hpl
 obtain⟨vb,vo,vcap,hve,_⟩:=hrd.pos (by decide) (by rw[hplen];omega);have hj:i - 1<ps.length:=by omega
 have rpt:rdO prog 156 w2 vb (vo+(i - 1))=some (pt (ps[i - 1]) 0):=by
  rw[hve]at hrd;have:=hrd.fld (P:=prog) (t:=156) agg156 (i:=i - 1) (by rw[hplen];omega) (j:=0) (by decide) (x:=pt (ps[i - 1]) 0) (by simp only[List.getElem_map,List.getElem?_cons_zero]);rw[Nat.mul_one,Nat.add_zero]at this;exact this
 rw[hplen]at hve
 have htr:(trsP s.width pg (chK pg s.mark) (chK pg s.mark).length)[i - 1]?=some (trP s.width pg (chK pg s.mark) i):=by
  unfold trsP;rw[List.getElem?_map,List.getElem?_range (by omega)];show some (trP s.width pg (chK pg s.mark) (i - 1+1))=_;rw[show i - 1+1=i by omega]
 obtain⟨mR,mL,rows,lvs,s1,s2,s3,s4,s5,s6,s7,s8⟩:=hsh (i - 1) (ps[i - 1]) _ (List.getElem?_eq_getElem hj) htr;have hmRub:mR≠ub:=by have:=s5.lt;omega
 have s1:=fL2.at s1 id;have s5:=s5.fr0 fL2;generalize ps[i - 1]=ob2 at *;have y1:(0:Int)≤((i - 1:Nat):Int)∧((i - 1:Nat):Int)<((chK pg s.mark).length:Int):=by omega
 have wi:IntKind.i64.wrap ((i:Int) - 1)=((i - 1:Nat):Int):=qZj (b:=1) (by omega) (by omega);have ro:rdO prog 152 w2 ob2 0=some (.map (some mR)):=rd1 agg152 s1 rfl;rw[hve]at rv;simp -implicitDefEqProofs only[go_sem,jY,zB,rv,wi,y1.1,y1.2,and_self,if_true,iTn,Nat.mul_one,rpt,ro];obtain⟨es,c,m1,_⟩:=id s5;obtain⟨g1,g2,g3,g4,g5⟩:=ents_row s5 s7 m1;obtain⟨q1,it1,f3⟩:=range_it (P:=prog) (mapUnd map152) m1 g4 g5;refine qQj ⟨_,_,q1,?_⟩;have hc3:=hc2.fr f3 id;refine loopD [2,27] (mkI w ub w2.heap.size mR es c (fun q=>S q∨q=chAt (chK pg s.mark) i) (B+1)) es.toList.length ⟨#[],[],by simp -implicitDefEqProofs only[go_sem,jY],it1,by rw[qVa],by rw[qVa];exact List.Perm.refl _,hc3.ext (fun p=>by simp) (by simp),f2.trans' f3 fun b hb e=>e.elim⟩ ?_;rintro _ vs w6 g ⟨seen,done,rfl,hit,rfl,hpm,hcn,f6⟩
 have hdl:done.length≤2 ^ 22:=by
  have:=hpm.length_eq;rw[lAp]at this;have:=zK (xs:=es);omega
 simp -implicitDefEqProofs only[go_sem,jY];refine qQj (It.next hit ?_ ?_)
 ·intro hnil
  simp -implicitDefEqProofs only[go_sem,gLa,gLz];refine⟨f6,hcn.ext (fun p=>?_) (by omega)⟩;rw[hnil,List.append_nil]at hpm;unfold Aud.uses;rw[← rows_pgs (zE _) hw row0];constructor
  ·rintro ((h | h) | ⟨e,he,hev⟩)
   ·exact .inl h
   ·exact .inr ⟨h1,.inl h⟩
   ·obtain⟨key,q,hk,hq⟩:=g1 e (hpm.mem_iff.1 he)
    rw[hev]at hq;have:p=q:=vint_inj hq;exact .inr ⟨h1,.inr ⟨key,by rw[this];exact hk⟩⟩
  ·rintro (h | ⟨_,h | ⟨key,hk⟩⟩)
   ·exact .inl (.inl h)
   ·exact .inl (.inr h)
   ·obtain⟨e,he,hev⟩:=g2 key p hk
    exact .inr ⟨e,hpm.mem_iff.2 he,hev⟩
 ·intro e w7 he hit7 f7
  simp -implicitDefEqProofs only[go_sem,jY,gLa,gLz];refine qQj ⟨_,_,hit7.entry (left_mem he),?_⟩;obtain⟨key,p,hk,hev⟩:=g1 e (left_mem he);rw[hev];have hub7:ub≠w2.heap.size:=by obtain⟨l2,a2,_⟩:=id hc2;have:=a2.lt;omega
  have hcn7:=hcn.fr f7 hub7;obtain⟨n7,ok7,hn7,lk7,ob7,hp7,hc7,f8⟩:=hcn7.inc p;have i7:=iSu (i:=n7);simp -implicitDefEqProofs only[go_sem,jY,gLa,gLz,gLs,lk7,i7,hp7];have hmR7:mR≠w2.heap.size:=by have:=s5.lt;omega
  refine⟨_,?_,seen.push e.born,done++[e],rfl,hit7.fr f8 (fun e=>hub7 e.symm) hmRub,rfl,?_,hc7.ext (fun q=>?_) (by rw[lAp,List.length_singleton];omega),(f6.trans' f7 fun b hb e=>?_).trans f8⟩
  ·have:=(hit.took he).length_eq
   rw[zU]at this;omega
  ·rw[List.append_assoc,List.singleton_append]
   exact ((hit.took he).append_left done).trans hpm
  ·constructor
   ·rintro ((h | ⟨x,hx,hxv⟩) | h)
    ·exact .inl h
    ·exact .inr ⟨x,zP _ hx,hxv⟩
    ·exact .inr ⟨e,zN _ (List.mem_singleton.2 rfl),by rw[hev,h]⟩
   ·rintro (h | ⟨x,hx,hxv⟩)
    ·exact .inl (.inl h)
    ·rcases List.mem_append.1 hx with hx | hx
     ·exact .inl (.inr ⟨x,hx,hxv⟩)
     ·rw[List.mem_singleton.1 hx,hev]at hxv
      exact .inr (vint_inj hxv).symm
  ·subst e
   have:=f2.size;omega
end
end A
end
end Go.V
