/- Helpers. -/
import Derived.Test.YtppmpdjlmgfdkaaGreatDoorB22
import Derived.Test.YtppmpdjlmgfdkaaGreatDoorB16
import Derived.Test.YtppmpdjlmgfdkaaGreatDoorB23
import Derived.Test.YtppmpdjlmgfdkaaGreatDoorB09
import Derived.Test.YtppmpdjlmgfdkaaGreatDoorB17
set_option linter.all false
set_option maxRecDepth 100000
set_option maxHeartbeats 8000000
open Array renaming all_toList->kU,replicate->jA
open List renaming range->qI,take_of_length_le->zG,length_map->zB,countP_map->kE,perm_ext_iff_of_nodup->kI,getElem?_toArray->xI,countP_singleton->kO,countP_append->rQ
open Nat renaming reduceEqDiff->yJ,zero_add->jY,le_refl->xC,zero_le->jK,reduceBEq->yY,reduceAdd->vH,add_zero->yF,mul_one->yK
open Option renaming none->kY
open Go.Value renaming int->vM,cells->yN
namespace Go.V
open Go.Proofs.Tryz Go.V.Tryz
open Go.Proofs Sha
variable {im:Bs} {e:Int} {ls:List (List Bat.Ch)} {fs l:List (Nat × Int)} {b c i k mn mr q sb:Nat} {el et kt t:TypeId} {av bv iv lv v vv:Value} {u w:World}
section
namespace A
open Aud
def isLf:Option Pg->Bool
 | some (.nd (.leaf _ _))=>true
 | _=>false
def isBrn:Option Pg->Bool
 | some (.nd (.br _ _ _ _ _ _))=>true
 | _=>false
def cntP (f:Option Pg->Bool)(pg:Nat->Option Pg)(k:Nat):Nat:=(qI k).countP fun p=>f (pg p)
theorem cntP_le (f:Option Pg->Bool)(pg:Nat->Option Pg)(k:Nat):cntP f pg k<=k:=Nat.le_trans List.countP_le_length sm
theorem cnt_keys {A:List Nat}(E:A.Nodup){q f:Nat->Bool}(h:∀ p,p ∈ A ↔ p<k/\q p=true)(H:∀ p,f p=true->q p=true):A.countP f=(qI k).countP f:=by
 have I:A.Perm ((qI k).filter q):=(kI E (List.nodup_range.filter _)).2 fun p=>by
  rw[h p,List.mem_filter,List.mem_range]
 rw[I.countP_eq,List.countP_filter]
 congr 1
 funext p
 cases B:f p with
 | false=>simp
 | true=>simp[H p B]
abbrev rpC (wd pgs mk A B lt lv br rc:Nat)(E:Value):Array Value:=#[.int .i64 (wd:Nat),.int .i64 (pgs:Nat),.int .i64 (mk:Nat),.int .i64 (A:Nat),.int .i64 (B:Nat),.int .i64 (lt:Nat),.int .i64 (lv:Nat),.int .i64 (br:Nat),.int .i64 (rc:Nat),E]
abbrev rp0:Array Value:=#[.int .i64 0,.int .i64 0,.int .i64 0,.int .i64 0,.int .i64 0,.int .i64 0,.int .i64 0,.int .i64 0,.int .i64 0,.slice none 0 0]
theorem bldRp0:bldO prog 25 []=some (.agg rp0):=by
 rw[qKd zero25 places25 (c:=rp0) x8];rfl
def rpPs:List (Nat × Nat):=[(0,1),(1,1),(2,1),(3,1),(4,1),(5,1),(6,1),(7,1),(8,1),(9,1)]
theorem rpPlaces:qXh prog 25=some rpPs:=x8
theorem bldRp (wd pgs mk A rc:Nat)(a:Option Addr)(n cap:Nat):bldO prog 25 [(0,.int .i64 (wd:Nat)),(1,.int .i64 (pgs:Nat)),(2,.int .i64 (mk:Nat)),(3,.int .i64 (A:Nat)),(8,.int .i64 (rc:Nat)),(9,.slice a n cap)]=some (.agg (rpC wd pgs mk A 0 0 0 0 rc (.slice a n cap))):=by
 rw[qKd zero25 rpPlaces (c:=rp0) x8];have s:∀ (i:Nat) (a r:List Value) (u v:Value) (rest:List (Nat × Value)),rpPs[i]?=some (i,1)->a.length=i->one v=true->Instr.fill (fun i=>rpPs[i]?) (a++u::r).toArray ((i,v)::rest)=Instr.fill (fun i=>rpPs[i]?) (a++v::r).toArray rest:=fun i a r u v rest E H I=>qJb E H I;have J:=s 0 [] [vM .i64 0,vM .i64 0,vM .i64 0,vM .i64 0,vM .i64 0,vM .i64 0,vM .i64 0,vM .i64 0,.slice none 0 0] (vM .i64 0) (.int .i64 (wd:Nat)) [(1,.int .i64 (pgs:Nat)),(2,.int .i64 (mk:Nat)),(3,.int .i64 (A:Nat)),(8,.int .i64 (rc:Nat)),(9,.slice a n cap)] rfl rfl rfl;have L:=s 1 [vM .i64 (wd:Nat)] [vM .i64 0,vM .i64 0,vM .i64 0,vM .i64 0,vM .i64 0,vM .i64 0,vM .i64 0,.slice none 0 0] (vM .i64 0) (.int .i64 (pgs:Nat)) [(2,.int .i64 (mk:Nat)),(3,.int .i64 (A:Nat)),(8,.int .i64 (rc:Nat)),(9,.slice a n cap)] rfl rfl rfl;have M:=s 2 [vM .i64 (wd:Nat),.int .i64 (pgs:Nat)] [vM .i64 0,vM .i64 0,vM .i64 0,vM .i64 0,vM .i64 0,vM .i64 0,.slice none 0 0] (vM .i64 0) (.int .i64 (mk:Nat)) [(3,.int .i64 (A:Nat)),(8,.int .i64 (rc:Nat)),(9,.slice a n cap)] rfl rfl rfl;have N:=s 3 [vM .i64 (wd:Nat),.int .i64 (pgs:Nat),.int .i64 (mk:Nat)] [vM .i64 0,vM .i64 0,vM .i64 0,vM .i64 0,vM .i64 0,.slice none 0 0] (vM .i64 0) (.int .i64 (A:Nat)) [(8,.int .i64 (rc:Nat)),(9,.slice a n cap)] rfl rfl rfl;have O:=s 8 [vM .i64 (wd:Nat),.int .i64 (pgs:Nat),.int .i64 (mk:Nat),.int .i64 (A:Nat),vM .i64 0,vM .i64 0,vM .i64 0,vM .i64 0] [.slice none 0 0] (vM .i64 0) (.int .i64 (rc:Nat)) [(9,.slice a n cap)] rfl rfl rfl;have B:=s 9 [vM .i64 (wd:Nat),.int .i64 (pgs:Nat),.int .i64 (mk:Nat),.int .i64 (A:Nat),vM .i64 0,vM .i64 0,vM .i64 0,vM .i64 0,.int .i64 (rc:Nat)] [] (.slice none 0 0) (.slice a n cap) [] rfl rfl rfl
 rw[qXu]at B;exact congrArg (Option.map Value.agg) (((((J.trans L).trans M).trans N).trans O).trans B)
theorem lookP_err (h:lookP im=.error e):(e != 0)=true:=by
 unfold lookP at h;split at h
 ·cases h;rfl
 ·split at h
  ·cases h;rfl
  ·split at h
   ·rename_i A;cases h;exact chooseP_err A
   ·split at h
    ·cases h;rfl
    ·cases h
theorem lenMap (A:mapO prog t=some (kt,et)){ty:TypeId}{B:Nat}{E:Array MapEntry}(h:w.heap[B]?=some (.map E c)):(Builtin.len_ #[t] ty #[.map (some B)]).run prog w=.ok (goInt E.size) w:=by
 have H:prog.underlying t=some (.map kt et):=by
  unfold mapO at A;split at A
  ·rename_i k e I;cases A;exact I
  ·cases A
 simp[Builtin.len_,r_und H,getObj,Sem.run,h]
def CkQ (u:World)(im:Bs)(v:Value)(w:World):Prop:=No u w /\
 match lookP im with
 | .error e=>v=.tuple #[.agg rp0,.int .i64 e]
 | .ok (s,fs)=>∃ A,v=.tuple #[.agg (rpC s.width s.pages s.mark s.head (if isRc (pgF im s.mark s.head) then (rcAt (pgF im s.mark) s.head).first else 0) (if isRc (pgF im s.mark s.head) then (rcAt (pgF im s.mark) s.head).ver else 0) (cntP isLf (pgF im s.mark) s.mark) (cntP isBrn (pgF im s.mark) s.mark) (chK (pgF im s.mark) s.mark).length A),.int .i64 0]/\NwR u w 43 2 A (fnR fs)
theorem mapUnd (A:mapO prog t=some (kt,et)):prog.underlying t=some (.map kt et):=by
 unfold mapO at A;split at A
 ·rename_i k e B;cases A;exact B
 ·cases A
def lfE (e:MapEntry):Bool:=match e.val with
 | .agg c=>(match c[0]? with | some (vM _ 1)=>true | _=>false)
 | _=>false
theorem lfE_nd {e:MapEntry}{n:Nd}(h:e.val=.agg (ndA n vv).toArray):lfE e=isLf (some (.nd n)):=by
 unfold lfE;rw[h]
 cases n <;> rfl
theorem ents_nd {s:Sup}{cv vv fv bv:Value}{L rl:List (Nat × Value)}{pg:Nat->Option Pg}(h:SgM u w sb iv im s mn mr cv vv fv bv L rl pg k fs){H:Array MapEntry}(he:w.heap[mn]?=some (.map H c)) :
  (∀ e ∈ H.toList,∃ p n vv,pg p=some (.nd n)/\e.val=.agg (ndA n vv).toArray/\one vv=true)/\H.toList.countP lfE=cntP isLf pg k/\H.toList.countP (fun e=>!lfE e)=cntP isBrn pg k/\(∀ e ∈ H.toList,e.born<c)/\(H.toList.map (·.born)).Nodup:=by
 obtain⟨a0,c',h1,h2,h3,h4,h5,h6⟩:=id h.nds;rw[he]at h1;cases h1
 have key:∀ q ∈ L,∃ n vv,q.1<k/\pg q.1=some (.nd n)/\q.2=.agg (ndA n vv).toArray/\one vv=true:=fun q B=>by
  have U:=(findM_mem h4).2 (show (q.1,q.2) ∈ L from B);have J:=h.na q.1;split at J
  ·rename_i n e
   obtain⟨x,O,vv,I,W,_,_⟩:=J;rw[U]at O;cases O
   by_cases M:q.1<k
   ·rw[if_pos M]at e;exact⟨n,vv,M,e,I,W⟩
   ·rw[if_neg M]at e;cases e
  ·rw[U]at J;cases J
 have R:∀ e ∈ H.toList,∃ q ∈ L,e.val=q.2:=fun e E=>by
  have:=List.mem_map_of_mem (f:=fun e:MapEntry=>(e.key,e.val)) E;rw[h2]at this;obtain⟨q,B,e'⟩:=List.mem_map.1 this;exact⟨q,B,(congrArg Prod.snd e').symm⟩
 have Y:∀ p,p ∈ L.map (·.1) ↔ p<k/\(isLf (pg p) || isBrn (pg p))=true:=fun p=>by
  constructor
  ·intro A
   obtain⟨q,B,rfl⟩:=List.mem_map.1 A;obtain⟨n,vv,M,e,_⟩:=key q B;refine⟨M,?_⟩;rw[e]
   cases n <;> rfl
  ·rintro⟨M,A⟩
   refine Classical.byContradiction fun hc=>?_;have U:=findM_none.2 hc;have J:=h.na p;rw[if_pos M]at J
   cases V:pg p with
   | none=>rw[V]at A;cases A
   | some g =>
    rw[V]at J A
    cases g with
    | rc r=>cases A
    | nd n =>
     obtain⟨x,O,_⟩:=J;rw[U]at O;cases O
 have T:∀ (f:MapEntry->Bool) (g:Option Pg->Bool),(∀ e n vv,e.val=.agg (ndA n vv).toArray->f e=g (some (.nd n)))->(∀ p,g (pg p)=true->(isLf (pg p) || isBrn (pg p))=true)->H.toList.countP f=cntP g pg k:=fun f g N V=>by
  have Z:H.toList.countP f=(H.toList.map (fun e=>(e.key,e.val))).countP fun x=>f { key:=x.1,val:=x.2,born:=0 }:=by
   rw[kE];refine List.countP_congr fun e E=>?_;obtain⟨q,B,ev⟩:=R e E;obtain⟨n,vv,_,_,I,_⟩:=key q B;show f e=true ↔ f { key:=e.key,val:=e.val,born:=0 }=true;rw[N e n vv (ev.trans I),N { key:=e.key,val:=e.val,born:=0 } n vv (ev.trans I)]
  rw[Z,h2,kE]
  have I:L.countP ((fun x:Value × Value=>f { key:=x.1,val:=x.2,born:=0 }) ∘ fun p=>(encN p.1,p.2))=(L.map (·.1)).countP fun p=>g (pg p):=by
   rw[kE];refine List.countP_congr fun q B=>?_;obtain⟨n,vv,_,e,I,_⟩:=key q B;show f { key:=encN q.1,val:=q.2,born:=0 }=true ↔ g (pg q.1)=true;rw[N { key:=encN q.1,val:=q.2,born:=0 } n vv I,e]
  rw[I];exact cnt_keys h4 Y fun p A=>V p A
 refine⟨fun e E=>?_,T lfE isLf (fun e n vv h=>lfE_nd h) (fun p A=>by rw[A];rfl),T (fun e=>!lfE e) isBrn (fun e n vv h=>by rw[lfE_nd h];cases n <;> rfl) (fun p A=>by rw[A,Bool.or_true]),h5,h6⟩;obtain⟨q,B,Z⟩:=R e E;obtain⟨n,vv,_,A,I,W⟩:=key q B;exact⟨q.1,n,vv,A,Z.trans I,W⟩
theorem ents_rc {s:Sup}{cv vv M bv:Value}{N rl:List (Nat × Value)}{pg:Nat->Option Pg}(h:SgM u w sb iv im s mn mr cv vv M bv N rl pg k fs){I:Array MapEntry}(O:w.heap[mr]?=some (.map I c)):I.size=(chK pg k).length:=by
 obtain⟨R,c',J,T,Y,U,Z,h6⟩:=id h.rcs;rw[O]at J;cases J
 have B:I.size=(rl.map (·.1)).length:=by
  have:=congrArg List.length T;rw[zB,zB]at this;rw[zB,<- this,Array.length_toList]
 rw[B];refine List.Perm.length_eq ((kI U (show (chK pg k).Nodup from by unfold chK;exact List.nodup_range.filter _)).2 fun p=>?_);unfold chK;rw[List.mem_filter,List.mem_range];have E:=h.ra p;constructor
 ·intro A
  have V:findM rl p≠none:=fun e=>findM_none.1 e A;split at E
  ·rename_i r e
   by_cases H:p<k
   ·rw[if_pos H]at e;exact⟨H,by rw[e];rfl⟩
   ·rw[if_neg H]at e;cases e
  ·exact absurd E V
 ·rintro⟨H,A⟩
  refine Classical.byContradiction fun W=>?_;rw[if_pos H,findM_none.2 W]at E
  cases L:pg p with
  | none=>rw[L]at A;cases A
  | some g =>
   rw[L]at E A
   cases g with
   | nd n=>cases A
   | rc r=>cases E
def ckI (B:World)(E:Nat)(sb b r mn:Nat)(A:Array MapEntry)(c:Nat)(H I:Nat)(C:Nat->Nat->Array Value)(n:Nat)(vs:List Value)(w:World):Prop :=
 ∃ (seen:Array Nat) (lv br:Nat),vs=[pt E 0,pt sb 0,pt b 0,pt r 0]/\It w r mn A c seen/\n=(leftOf A seen).toList.length/\lv+(leftOf A seen).toList.countP lfE=H/\br+(leftOf A seen).toList.countP (fun e=>!lfE e)=I/\w.heap[b]?=some (.cells (C lv br) 25 (0,0))/\No B w
theorem rec_is {s:Sup}{cv vv J bv:Value}{L rl:List (Nat × Value)}{pg:Nat->Option Pg}(h:SgM u w sb iv im s mn mr cv vv J bv L rl pg s.mark fs)(M:LkOk u sb iv s pg)(p:Nat):lookO prog 69 w (.map (some mr)) (.int .i64 (p:Nat))=some (.agg (rcC (rcAt pg p)).toArray,isRc (pg p)):=by
 have A:=h.rcs.look keyN (k:=p) trivial map69 (z:=.agg (rcC rc00).toArray) x8;have B:=h.ra p
 have N:(if p<s.mark then pg p else none)=pg p:=by
  by_cases H:p<s.mark
  ·rw[if_pos H]
  ·rw[if_neg H,M.hpg p om]
 rw[N]at B;unfold rcAt;split at B
 ·rename_i r e;rw[B]at A;rw[e];exact A
 ·rename_i e
  rw[B]at A;split
  ·rename_i r I;exact absurd I (e r)
  ·rename_i I
   have:isRc (pg p)=false:=by
    unfold isRc;split
    ·rename_i r E;exact absurd E (e r)
    ·rfl
   rw[this];exact A
def Ck4 (A B:World)(sb:Nat)(rc:Value)(E H I:Value)(w:World):Prop :=
 E=pt A.heap.size 0/\H=pt sb 0/\∃ b,I=pt b 0/\B.heap.size<=b/\No A w/\w.heap[A.heap.size]?=some (.cells rp0 25 (0,0))/\w.heap[b]?=some (.cells rc.cells 25 (0,0))
theorem check (w:World)(ht:Tabs w)(hi:By w iv im)(hl:im.length<=2 ^ 47) :
  Fn prog 8 #[iv] w fun v w'=>CkQ w im v w':=by
 refine go8 sm ?_;obtain⟨W,hW,f1,k1,s1⟩:=qQl w rp0 25;have c5:=f1;have zz:jA 9 (vM .i64 0)++#[Value.slice none 0 0]=rp0:=x8
 simp only[go_sem,yJ,yN,Tryz.f8,zz,hW];refine qQa pl23 ((look W (ht.no f1) (hi.fr0 f1) hl).mono ?_);rintro v O Y;unfold LkQ at Y
 cases L:lookP im with
 | error e =>
  rw[L]at Y;obtain⟨rfl,f2⟩:=Y;have ne:=lookP_err L;have k2:=f2.at k1 id;have q2:wrO prog 25 O w.heap.size 0 (.agg rp0)=some (put O w.heap.size (.cells rp0 25 (0,0))):=qQr sz25 k2 rfl (by rw[<- kU];rfl);have k3:=qQd (o:=.cells rp0 25 (0,0)) k2;have ld:=qQp (P:=prog) (t:=25) agg25 sz25 k3;simp only[go_sem,yJ,ne,bldRp0,q2,ld];unfold CkQ;rw[L];exact⟨(f1.trans f2).put (b:=w.heap.size) _ fun h=>by omega,rfl⟩
 | ok y =>
  obtain⟨s,fs⟩:=y;rw[L]at Y;obtain⟨sb,mn,mr,cv,vv,nl,rl,rfl,ho,hE⟩:=Y;obtain⟨⟨f2,fv,bv,R,hb⟩,_⟩:=hE;have k2:=f2.at k1 id;have g6:((0:Int) != 0)=false:=rfl;simp only[go_sem,yJ,bNe];obtain⟨I,cR,T,g7,g8,g9,h0,h3⟩:=id R.rcs;obtain⟨H,A,c6,d7⟩:=R.fnd.rd.slice;refine qXg (Q:=fun e ev w5=>e=.normal/\Ck4 w O sb (.agg (rpC s.width s.pages s.mark s.head 0 0 0 0 I.size (.slice H (fnR fs).length A))) (ev 2) (ev 4) (ev 6) w5/\No O w5) _ (fun e ev w5=>?_) ?_
  ·rintro⟨rfl,⟨e2,e4,B,e6,h4,f5,k5,k6⟩,b3⟩
   rw[thenQ_normal];have b4:=R.fr0 b3;obtain⟨c7,cN,m1,_⟩:=id b4.nds;obtain⟨d8,d9,e0,e1,e3⟩:=ents_nd b4 m1;have r6:rdO prog 68 w5 sb 6=some (.map (some mn)):=rd1 agg68 b4.row rfl;simp only[go_sem,jY,e4,r6];obtain⟨q1,e5,f1⟩:=range_it (P:=prog) (mapUnd map68) m1 e1 e3;refine qQj ⟨_,_,q1,?_⟩;simp only[go_sem];refine loopD [2,4,6,54] (ckI O w.heap.size sb B w5.heap.size mn c7 cN (cntP isLf (pgF im s.mark) s.mark) (cntP isBrn (pgF im s.mark) s.mark) fun lv br=>rpC s.width s.pages s.mark s.head 0 0 lv br I.size (.slice H (fnR fs).length A)) c7.toList.length ⟨#[],0,0,?_,e5,by rw[left_all],by rw[left_all,jY];exact d9,by rw[left_all,jY];exact e0,f1.at k6 id,b3.trans f1⟩ ?_
   ·show [_,_,_,_]=_
    simp only[go_sem,yJ,e2,e4,e6]
   rintro _ vs w6 g ⟨seen,lv,br,rfl,b5,rfl,h1,h2,kb,U⟩;simp only[go_sem,yJ];refine qQj (It.next b5 ?_ ?_)
   ·intro a9
    simp only[go_sem];have e7:lv=cntP isLf (pgF im s.mark) s.mark:=by rw[a9]at h1;exact h1
    have Z:br=cntP isBrn (pgF im s.mark) s.mark:=by rw[a9]at h2;exact h2
    subst e7;subst Z;have a3:=R.fr0 U;have c8:I.size=(chK (pgF im s.mark) s.mark).length:=ents_rc R T;rw[c8]at kb;clear b5 h1 h2;refine qXl (fun j=>j == 13) (.row [0,1,2,4,5,6,7,3,8,9,10,11,12,13,14,15]) rfl x8 x8 ?_;have a3:=a3.fr0 ((Fr.refl _ _).drew);have kb:w6.drew.heap[B]?=_:=kb;have U:=U.drew;generalize w6.drew=M at *;have r7:rdO prog 69 M sb 7=some (.map (some mr)):=rd1 agg69 a3.row rfl;have r4:rdO prog 3 M sb 4=some (.int .i64 (s.head:Nat)):=rd1 agg3 a3.row rfl;have lk:=rec_is a3 ho s.head;obtain⟨W8,b7,f8,k8,s8⟩:=qQl M (rcC rc00).toArray 80;generalize c9:rcAt (pgF im s.mark) s.head=E at *;have rl:(rcC E).length=38:=qXn (by rw[<- c9];exact rcAt_len ho _);have q8:wrO prog 80 W8 M.heap.size 0 (.agg (rcC E).toArray)=some (put W8 M.heap.size (.cells (rcC E).toArray 80 (0,0))):=qQr (by simp[rl];exact sz80) k8 (by simp[rl,qXn (r:=rc00) z32l]) (by simpa using rcC_one _);have k9:=qQd (o:=.cells (rcC E).toArray 80 (0,0)) k8;have f9:No M (put W8 M.heap.size (.cells (rcC E).toArray 80 (0,0))):=f8.put (b:=M.heap.size) _ fun h=>by omega
    have hz:=rcZero;have e8:=f8.ext;simp only[go_sem,yJ,yY,vH,yN,bSe,jY,qQk,OT.row,r7,r4,lk,hz,b7,q8,e8,implies_true];generalize put W8 M.heap.size (.cells (rcC E).toArray 80 (0,0))=N at *;have J:=f9.at kb id;have h5:=f9.at ((show No O M from U).at k2 id) id;have a6:=U.trans f9;have hne:B≠w.heap.size:=by have:=qQh k2;omega
    have tail:∀ (ft lt:Nat) (W:World), No O W->W.heap[B]?=some (.cells (rpC s.width s.pages s.mark s.head ft lt (cntP isLf (pgF im s.mark) s.mark) (cntP isBrn (pgF im s.mark) s.mark) (chK (pgF im s.mark) s.mark).length (.slice H (fnR fs).length A)) 25 (0, 0)) ->
      ft=(if isRc (pgF im s.mark s.head) then E.first else 0)->lt=(if isRc (pgF im s.mark s.head) then E.ver else 0) ->
      rdO prog 25 W B 0=some (.agg (rpC s.width s.pages s.mark s.head ft lt (cntP isLf (pgF im s.mark) s.mark) (cntP isBrn (pgF im s.mark) s.mark) (chK (pgF im s.mark) s.mark).length (.slice H (fnR fs).length A))) /\
      ∃ W',wrO prog 25 W w.heap.size 0 (.agg (rpC s.width s.pages s.mark s.head ft lt (cntP isLf (pgF im s.mark) s.mark) (cntP isBrn (pgF im s.mark) s.mark) (chK (pgF im s.mark) s.mark).length (.slice H (fnR fs).length A)))=some W' /\
       rdO prog 25 W' w.heap.size 0=some (.agg (rpC s.width s.pages s.mark s.head ft lt (cntP isLf (pgF im s.mark) s.mark) (cntP isBrn (pgF im s.mark) s.mark) (chK (pgF im s.mark) s.mark).length (.slice H (fnR fs).length A))) /\
       CkQ w im (.tuple #[.agg (rpC s.width s.pages s.mark s.head ft lt (cntP isLf (pgF im s.mark) s.mark) (cntP isBrn (pgF im s.mark) s.mark) (chK (pgF im s.mark) s.mark).length (.slice H (fnR fs).length A)),.int .i64 0]) W':=fun ft lt W f k e9 f6=>by
     have kz:=f.at k2 id;have k':=qQd (o:=.cells (rpC s.width s.pages s.mark s.head ft lt (cntP isLf (pgF im s.mark) s.mark) (cntP isBrn (pgF im s.mark) s.mark) (chK (pgF im s.mark) s.mark).length (.slice H (fnR fs).length A)) 25 (0,0)) kz;have fW:Fr (fun b=>b=w.heap.size) O (put W w.heap.size (.cells (rpC s.width s.pages s.mark s.head ft lt (cntP isLf (pgF im s.mark) s.mark) (cntP isBrn (pgF im s.mark) s.mark) (chK (pgF im s.mark) s.mark).length (.slice H (fnR fs).length A)) 25 (0,0))):=(f.mono fun _ _ h=>h.elim).put (b:=w.heap.size) _ fun _=>rfl;refine⟨qQp (P:=prog) (t:=25) agg25 sz25 k,_,qQr sz25 kz rfl (by rw[<- kU];rfl),qQp (P:=prog) (t:=25) agg25 sz25 k',(c5.trans f2).trans' fW (fun b hb e=>by subst e;exact Nat.lt_irrefl _ hb),?_⟩;rw[L];refine⟨.slice H (fnR fs).length A,?_,?_⟩
     ·show Value.tuple _=_
      rw[c9,e9,f6]
     ·have hn:=R.fnd
      rw[c6]at hn;refine (hn.back c5.size).fr fW fun b hb e=>?_;have:=(hn.lt hb).1;subst e;have:=s1;omega
    by_cases hrc:isRc (pgF im s.mark s.head)=true
    ·rw[hrc]
     simp only[go_sem];refine qXl (fun _=>false) (.one 0 (.one 2 (.one 1 (.one 4 (.two 3 (.row [5,6,7]) 5 (.row [3,6,7])))))) rfl x8 x8 ?_;have J:N.drew.heap[B]?=_:=J;have k9:N.drew.heap[M.heap.size]?=_:=k9;have a6:=a6.drew;have g0:M.heap.size≠B:=by have:=qQh kb;omega
     generalize N.drew=N at *;have a0:rdO prog 3 N M.heap.size 0=some (.int .i64 (E.ver:Nat)):=rd1 agg3 k9 rfl;have a1:rdO prog 3 N M.heap.size 1=some (.int .i64 (E.first:Nat)):=rd1 agg3 k9 rfl;have q4:wrO prog 3 N B 4 (.int .i64 (E.first:Nat))=some (put N B (.cells (rpC s.width s.pages s.mark s.head E.first 0 (cntP isLf (pgF im s.mark) s.mark) (cntP isBrn (pgF im s.mark) s.mark) (chK (pgF im s.mark) s.mark).length (.slice H (fnR fs).length A)) 25 (0,0))):=wr1 sz3 rfl J (show 4<10 by decide);have kc:=qQd (o:=.cells (rpC s.width s.pages s.mark s.head E.first 0 (cntP isLf (pgF im s.mark) s.mark) (cntP isBrn (pgF im s.mark) s.mark) (chK (pgF im s.mark) s.mark).length (.slice H (fnR fs).length A)) 25 (0,0)) J;have kd:=qQi (b:=B) (o:=.cells (rpC s.width s.pages s.mark s.head E.first 0 (cntP isLf (pgF im s.mark) s.mark) (cntP isBrn (pgF im s.mark) s.mark) (chK (pgF im s.mark) s.mark).length (.slice H (fnR fs).length A)) 25 (0,0)) k9 g0.symm;have n3:=a6.put (b:=B) (.cells (rpC s.width s.pages s.mark s.head E.first 0 (cntP isLf (pgF im s.mark) s.mark) (cntP isBrn (pgF im s.mark) s.mark) (chK (pgF im s.mark) s.mark).length (.slice H (fnR fs).length A)) 25 (0,0)) fun h=>by omega
     generalize put N B (.cells (rpC s.width s.pages s.mark s.head E.first 0 (cntP isLf (pgF im s.mark) s.mark) (cntP isBrn (pgF im s.mark) s.mark) (chK (pgF im s.mark) s.mark).length (.slice H (fnR fs).length A)) 25 (0,0))=WA at *;have g1:rdO prog 3 WA M.heap.size 0=some (.int .i64 (E.ver:Nat)):=rd1 agg3 kd rfl;have q5:wrO prog 3 WA B 5 (.int .i64 (E.ver:Nat))=some (put WA B (.cells (rpC s.width s.pages s.mark s.head E.first E.ver (cntP isLf (pgF im s.mark) s.mark) (cntP isBrn (pgF im s.mark) s.mark) (chK (pgF im s.mark) s.mark).length (.slice H (fnR fs).length A)) 25 (0,0))):=wr1 sz3 rfl kc (show 5<10 by decide);have ke:=qQd (o:=.cells (rpC s.width s.pages s.mark s.head E.first E.ver (cntP isLf (pgF im s.mark) s.mark) (cntP isBrn (pgF im s.mark) s.mark) (chK (pgF im s.mark) s.mark).length (.slice H (fnR fs).length A)) 25 (0,0)) kc;have n4:=n3.put (b:=B) (.cells (rpC s.width s.pages s.mark s.head E.first E.ver (cntP isLf (pgF im s.mark) s.mark) (cntP isBrn (pgF im s.mark) s.mark) (chK (pgF im s.mark) s.mark).length (.slice H (fnR fs).length A)) 25 (0,0)) fun h=>by omega
     generalize put WA B (.cells (rpC s.width s.pages s.mark s.head E.first E.ver (cntP isLf (pgF im s.mark) s.mark) (cntP isBrn (pgF im s.mark) s.mark) (chK (pgF im s.mark) s.mark).length (.slice H (fnR fs).length A)) 25 (0,0))=WB at *;obtain⟨ra,Wt,b8,rb,Y⟩:=tail E.first E.ver WB n4 ke (by rw[hrc];rfl) (by rw[hrc];rfl);simp only[go_sem,yJ,jY,OT.row,a0,a1,g1,q4,q5,ra,b8,rb,implies_true,true_and]
     first | exact Y | exact⟨Y,Y⟩
    ·rw[Bool.not_eq_true]at hrc
     obtain⟨ra,Wt,b8,rb,Y⟩:=tail 0 0 N a6 J (by rw[hrc];rfl) (by rw[hrc];rfl);rw[hrc];simp only[go_sem,yJ,ra,b8,rb];exact Y
   ·intro e M he b0 f7
    simp only[go_sem,yJ];refine qQj ⟨_,_,b0.entry (left_mem he),?_⟩;obtain⟨p,nd,a4,g2,d0,ov⟩:=d8 e (left_mem he);have a5:=(ho.hnd p nd g2).2;have g3:=lfE_nd d0;obtain⟨W8,b7,f8,k8,s8⟩:=qQl M nd0.toArray 78;have zz:#[.int .i64 0,.int .i64 0,.int .i64 0,.int .i64 0,.int .i64 0]++bl (List.replicate 96 0)++#[.slice none 0 0]=nd0.toArray:=ndZero;have q8:wrO prog 78 W8 M.heap.size 0 (.agg (ndA nd a4).toArray)=some (put W8 M.heap.size (.cells (ndA nd a4).toArray 78 (0,0))):=qQr (by simp[qJd a5];exact sz78) k8 (by simp[qJd a5,qXf z32l z32l z32l]) (by simpa using ndA_one ov);have k9:=qQd (o:=.cells (ndA nd a4).toArray 78 (0,0)) k8;have f9:No M (put W8 M.heap.size (.cells (ndA nd a4).toArray 78 (0,0))):=f8.put (b:=M.heap.size) _ fun h=>by omega
    rw[d0];simp only[go_sem,yJ,yN,jY,qQk,zz,b7,q8];generalize put W8 M.heap.size (.cells (ndA nd a4).toArray 78 (0,0))=N at *;have hmn:mn≠B:=fun e=>by subst e;rw[k6]at m1;cases m1
    have Z:B≠w5.heap.size:=by have:=qQh k6;omega
    have g4:=f7.at kb Z;have J:=f9.at g4 id;have b1:=b0.fr f9 id id;have d1:No O N:=(U.trans' f7 fun b hb e=>by subst e;have:=b3.size;omega).trans f9
    have hp:=(b5.took he)
    have a7:=hp.countP_eq lfE;have a8:=hp.countP_eq fun e=>!lfE e;have b9:=hp.length_eq;rw[List.countP_cons]at a7 a8;rw[List.length_cons]at b9;rw[g3]at a7 a8;have h6:lv<=4096:=by have:=cntP_le isLf (pgF im s.mark) s.mark;have:=ho.hm;omega
    have h7:br<=4096:=by have:=cntP_le isBrn (pgF im s.mark) s.mark;have:=ho.hm;omega
    cases nd with
    | leaf kk vl =>
     have d2:((1:Int) == 1)=true:=rfl;have c0:rdO prog 3 N B 6=some (.int .i64 (lv:Nat)):=rd1 agg3 J rfl;have c3:=iSu (i:=lv);have c4:wrO prog 3 N B 6 (.int .i64 ((lv+1:Nat):Int))=some (put N B (.cells (rpC s.width s.pages s.mark s.head 0 0 (lv+1) br I.size (.slice H (fnR fs).length A)) 25 (0,0))):=wr1 sz3 rfl J (show 6<10 by decide);simp only[go_sem,yJ,bSe,jY,(rdLf a5.1 k9).1,c0,c3,c4];refine⟨_,?_,seen.push e.born,lv+1,br,rfl,b1.fr ((Fr.refl (fun b=>b=B) _).put (b:=B) _ fun _=>rfl) ?_ ?_,rfl,?_,?_,qQd J,d1.put (b:=B) _ fun h=>by omega⟩
     ·omega
     ·exact fun e=>Z e.symm
     ·exact hmn
     ·rw[if_pos (by simp[isLf])]at a7;omega
     ·rw[if_neg (by simp[isLf])]at a8;omega
    | br lp rp lc rc ls rs =>
     have d2:((2:Int) == 1)=false:=rfl;have c0:rdO prog 3 N B 7=some (.int .i64 (br:Nat)):=rd1 agg3 J rfl;have c3:=iSu (i:=br);have c4:wrO prog 3 N B 7 (.int .i64 ((br+1:Nat):Int))=some (put N B (.cells (rpC s.width s.pages s.mark s.head 0 0 lv (br+1) I.size (.slice H (fnR fs).length A)) 25 (0,0))):=wr1 sz3 rfl J (show 7<10 by decide);simp only[go_sem,yJ,jY,(rdBr a5.2.1 a5.2.2 k9).1,d2,c0,c3,c4];refine⟨_,?_,seen.push e.born,lv,br+1,rfl,b1.fr ((Fr.refl (fun b=>b=B) _).put (b:=B) _ fun _=>rfl) ?_ ?_,rfl,?_,?_,qQd J,d1.put (b:=B) _ fun h=>by omega⟩
     ·omega
     ·exact fun e=>Z e.symm
     ·exact hmn
     ·rw[if_neg (by simp[isLf])]at a7;omega
     ·rw[if_pos (by simp[isLf])]at a8;omega
  refine qXl (fun j=>j == 24 || j == 30) (.one 0 (.one 1 (.one 2 (.one 3 (.one 5 (.one 6 (.one 7 (.one 8 (.one 10 (.one 11 (.one 12 (.one 13 (.one 15 (.one 16 (.one 17 (.one 18 (.one 20 (.one 21 (.one 22 (.one 25 (.one 26 (.one 27 (.one 4 (.one 9 (.one 14 (.one 19 (.one 23 (.one 28 (.two 24 (.row [29,30,31]) 30 (.row [24,29,31])))))))))))))))))))))))))))))) rfl x8 x8 ?_;have T:O.drew.heap[mr]?=_:=T;have f0:No O O.drew:=(Fr.refl _ _).drew;have d3:=f0.size;have R:=R.fr0 (Fr.refl _ _).drew;have f3:=(f1.trans f2).drew;have k3:O.drew.heap[w.heap.size]?=_:=k2;have hu:No W O.drew:=f2.drew;generalize O.drew=V at *;have r1:rdO prog 3 V sb 1=some (.int .i64 (s.width:Nat)):=rd1 agg3 R.row rfl;have r3:rdO prog 3 V sb 3=some (.int .i64 (s.mark:Nat)):=rd1 agg3 R.row rfl;have r4:rdO prog 3 V sb 4=some (.int .i64 (s.head:Nat)):=rd1 agg3 R.row rfl;have r5:rdO prog 3 V sb 5=some (.int .i64 (s.pages:Nat)):=rd1 agg3 R.row rfl;have r7:rdO prog 69 V sb 7=some (.map (some mr)):=rd1 agg69 R.row rfl;have g5:rdO prog 23 V sb 10=some (.slice H (fnR fs).length A):=by rw[<- c6];exact rd1 agg23 R.row rfl
  have b9:=lenMap map69 (ty:=3) T;obtain⟨W4,d4,f4,k4,s4⟩:=qQl V rp0 25;have zz:jA 9 (vM .i64 0)++#[Value.slice none 0 0]=rp0:=x8
  have d5:=bldRp s.width s.pages s.mark s.head I.size H (fnR fs).length A;have q4:wrO prog 25 W4 V.heap.size 0 (.agg (rpC s.width s.pages s.mark s.head 0 0 0 0 I.size (.slice H (fnR fs).length A)))=some (put W4 V.heap.size (.cells (rpC s.width s.pages s.mark s.head 0 0 0 0 I.size (.slice H (fnR fs).length A)) 25 (0,0))):=qQr sz25 k4 rfl (by rw[<- kU];rfl);have fe:=f4.ext;simp only[go_sem,yJ,yY,vH,yN,bSe,jY,yF,OT.row,r1,r3,r4,r5,r7,g5];have gi:goInt I.size=.int .i64 (I.size:Nat):=rfl;have d6:=lenMap map69 (ty:=3) ((f4.blk mr (qQh T) id).trans T);have kf:=qQd (o:=.cells (rpC s.width s.pages s.mark s.head 0 0 0 0 I.size (.slice H (fnR fs).length A)) 25 (0,0)) k4;have ff:=f4.put (b:=V.heap.size) (.cells (rpC s.width s.pages s.mark s.head 0 0 0 0 I.size (.slice H (fnR fs).length A)) 25 (0,0)) fun h=>by omega
  have kg:=ff.at k3 id;refine⟨?_,?_⟩
  ·refine qZm ⟨_,_,b9,?_⟩
   refine⟨fun _=>(Fr.refl (fun _=>False) _).ext,?_⟩;rw[gi];simp only[go_sem,yJ,yY,yN,bSe,d5,zz,d4,q4,fe,implies_true];exact⟨⟨rfl,rfl,V.heap.size,rfl,d3,f3.trans ff,kg,kf⟩,f0.trans ff⟩
  ·simp only[go_sem,zz,d4]
   refine qZm ⟨_,_,d6,?_⟩;refine⟨fun _=>(Fr.refl (fun _=>False) _).ext,?_⟩;rw[gi];simp only[go_sem,yJ,yY,d5,q4];exact⟨⟨rfl,rfl,V.heap.size,rfl,d3,f3.trans ff,kg,kf⟩,f0.trans ff⟩
end A
end
section
namespace A
open Aud R
theorem undFn:strucO prog 43=some [(false,3,0),(false,26,1)]:=x8
theorem stFn:prog.stoodInHeld 43=false:=x8
theorem eqV_j {d t:Nat}{P:Program}(h:intO P t=some .i64)(a b:Int):eqV P (d+1) t (.int .i64 a) (.int .i64 b)=some (a == b):=by
 unfold eqV;rw[qJe h];simp only[if_true]
theorem eqFn (a b:Nat × Int):eqV prog Op.maxDepth 43 (.agg #[.int .i64 (a.1:Nat),.int .i64 a.2]) (.agg #[.int .i64 (b.1:Nat),.int .i64 b.2])=some (decide (a=b)):=by
 rw[show Op.maxDepth=9998+1+1 from rfl,eqV_st undFn stFn];simp only[List.mapM_cons,List.mapM_nil,qKh agg3,qKh agg26,Bool.false_eq_true,if_false,xI,List.getElem?_cons_zero,List.getElem?_cons_succ,Option.bind_some,eqV_i int3,eqV_j int26,Option.pure_def,Option.bind_eq_bind,Option.map_some,List.all_cons,List.all_nil,id,Bool.and_true]
 congr 1
 obtain⟨a1,a2⟩:=a;obtain⟨A,b2⟩:=b;rw[Bool.eq_iff_iff];simp only[Bool.and_eq_true,decide_eq_true_eq,beq_iff_eq,Prod.mk.injEq]
def sfI (A:World)(av bv:Value)(l m:List (Nat × Int))(n:Nat)(vs:List Value)(w:World):Prop:=∃ i:Nat,vs=[av,bv,.int .i64 (i:Nat)]/\i<=l.length/\n=l.length - i/\No A w/\l.take i=m.take i
theorem fnR_at (h:i<(fnR l).length)(A:i<l.length):(fnR l)[i]=[vM .i64 (l[i].1:Nat),vM .i64 l[i].2]:=List.getElem_map ..
theorem sameFound (B:World){l m:List (Nat × Int)}(T:RdR B 2 av (fnR l))(U:RdR B 2 bv (fnR m))(hl:l.length<=2 ^ 40):Fn prog 17 #[av,bv] B fun v w'=>v=.bool (decide (l=m))/\No B w':=by
 refine go17 sm ?_;obtain⟨aa,ac,E,_⟩:=T.slice;obtain⟨ba,bc,H,_⟩:=U.slice;have Y:(fnR l).length=l.length:=fnR_len l;have Z:(fnR m).length=m.length:=fnR_len m;rw[Y]at E;rw[Z]at H;have O:=natne l.length m.length
 by_cases I:l.length=m.length
 case neg =>
  rw[decide_eq_true I]at O;rw[E,H];simp -implicitDefEqProofs only[go_sem,yJ,jY,Tryz.f17,O];exact⟨by rw[decide_eq_false fun e=>I (by rw[e])],Fr.refl _ _⟩
 rw[decide_eq_false fun h=>h I]at O;subst E H;simp -implicitDefEqProofs only[go_sem,yJ,jY,Tryz.f17,O];refine loopD [0,1,5] (sfI B (.slice aa l.length ac) (.slice ba m.length bc) l m) l.length ⟨0,rfl,jK _,rfl,Fr.refl _ _,rfl⟩ ?_;rintro _ vs w g ⟨i,rfl,hi,rfl,f,V⟩;have W:=natlt i l.length
 by_cases A:i<l.length
 ·rw[decide_eq_true A]at W
  have J:i<m.length:=om
  obtain⟨pb,po,pc,he,_⟩:=T.pos x9 (show 0<(fnR l).length by omega);obtain⟨qb,qo,qc,L,_⟩:=U.pos x9 (show 0<(fnR m).length by omega);rw[Y]at he;rw[Z]at L;cases he;cases L
  have r1:∀ {w'},No B w'->rdO prog 43 w' pb (po+i*2)=some (.agg #[.int .i64 (l[i].1:Nat),.int .i64 l[i].2]):=fun k=>by
   have:=(T.fr0 k).get (P:=prog) (t:=43) agg43 sz43 x9 (i:=i) om;rw[this,fnR_at _ A]
  have r2:∀ {w'},No B w'->rdO prog 43 w' qb (qo+i*2)=some (.agg #[.int .i64 (m[i].1:Nat),.int .i64 m[i].2]):=fun k=>by
   have:=(U.fr0 k).get (P:=prog) (t:=43) agg43 sz43 x9 (i:=i) om;rw[this,fnR_at _ J]
  have ra:=r1 f;have rb:=r2 f;have M:=r1 f.drew;have N:=r2 f.drew;have y1:=iBd (i:=i) (n:=l.length);have y2:=iBd (i:=i) (n:=m.length);have eq:=eqFn l[i] m[i];have c1:=iSu (i:=i);have t1:l.take (i+1)=l.take i++[l[i]]:=tSg A;have t2:m.take (i+1)=m.take i++[m[i]]:=tSg J;have ne:l[i]≠m[i]->l≠m:=fun h e=>h (by subst e;rfl)
  by_cases R:l[i]=m[i]
  ·rw[decide_eq_true R]at eq
   simp -implicitDefEqProofs only[go_sem,yJ,Bool.not_true,y1,y2,and_self,iTn,M,N,eqg43,eq,c1];exact⟨l.length - (i+1),om,i+1,rfl,om,rfl,f.drew,by rw[t1,t2,V,R]⟩
  ·rw[decide_eq_false R]at eq
   simp -implicitDefEqProofs only[go_sem,yJ,Bool.not_false,y1,y2,and_self,iTn,M,N,eqg43,eq];exact⟨by rw[decide_eq_false (ne R)],f.drew⟩
 ·rw[decide_eq_false A]at W
  rw[zG om,zG om]at V;simp -implicitDefEqProofs only[go_sem,yJ,W];exact⟨by rw[decide_eq_true V],f⟩
theorem sameReport (M:World){A n1 n2 B E H I J L:Nat}(R:RdR M 2 av (fnR l))(T:RdR M 2 bv (fnR l))(U:l.length<=2 ^ 40) :
  Fn prog 16 #[.agg (rpC A n1 n2 B E H I J L av),.agg (rpC A n1 n2 B E H I J L bv)] M fun v w'=>v=.bool true/\No M w':=by
 refine go16 sm ?_;obtain⟨W,V,N,Y,Z,s1⟩:=qZz M (rpC A n1 n2 B E H I J L av) 25 (rpC A n1 n2 B E H I J L bv) 25
 have rd:∀ {b:Nat} {O:Value},W.heap[b]?=some (.cells (rpC A n1 n2 B E H I J L O) 25 (0,0))->rdO prog 3 W b 0=some (vi A)/\rdO prog 3 W b 1=some (vi n1)/\rdO prog 3 W b 2=some (vi n2)/\rdO prog 3 W b 3=some (vi B)/\rdO prog 3 W b 4=some (vi E)/\rdO prog 3 W b 5=some (vi H)/\rdO prog 3 W b 6=some (vi I)/\rdO prog 3 W b 7=some (vi J)/\rdO prog 3 W b 8=some (vi L)/\rdO prog 23 W b 9=some O:=fun k =>
  ⟨rd1 agg3 k rfl,rd1 agg3 k rfl,rd1 agg3 k rfl,rd1 agg3 k rfl,rd1 agg3 k rfl,rd1 agg3 k rfl,rd1 agg3 k rfl,rd1 agg3 k rfl,rd1 agg3 k rfl,rd1 agg23 k rfl⟩
 obtain⟨a0,a1,a2,a3,a4,a5,a6,a7,a8,a9⟩:=rd Y;obtain⟨b0,b1,b2,b3,b4,b5,b6,b7,b8,b9⟩:=rd Z;simp -implicitDefEqProofs only[go_sem,yJ,yN,bSe,bNe,jY,Tryz.f16,V,a0,a1,a2,a3,a4,a5,b0,b1,b2,b3,b4,b5];simp -implicitDefEqProofs only[go_sem,yJ,bSe,jY,a6,a7,a8,a9,b6,b7,b8,b9];refine qQa pl17 ((sameFound W (R.fr0 N) (T.fr0 N) U).mono ?_);rintro _ w2 ⟨rfl,f2⟩;rw[decide_eq_true (rfl:l=l)];simp -implicitDefEqProofs only[go_sem,yJ];exact N.trans f2
def LsI (w:World)(v:Value)(ls:List (List Bat.Ch)):Prop:=∃ rows,RdR w 1 v rows/\rows.length=ls.length/\∀ i (h:i<rows.length) (A:i<ls.length),∃ lv,rows[i]=[lv]/\one lv=true/\ChI w lv ls[i]
theorem LsI.fr0 {w w':World}(h:LsI w v ls)(f:No w w'):LsI w' v ls:=by
 obtain⟨rows,A,B,E⟩:=h;refine⟨rows,A.fr0 f,B,fun i a b=>?_⟩;obtain⟨mv,e,o,g⟩:=E i a b;exact⟨mv,e,o,g.fr0 f⟩
theorem LsI.slice (h:LsI w v ls):∃ a cap,v=.slice a ls.length cap/\ls.length<=cap:=by
 obtain⟨rows,A,B,_⟩:=h;rw[<- B];exact A.slice
theorem LsI.at {w:World}{v:Value}{ls:List (List Bat.Ch)}(h:LsI w v ls){i:Nat}(hi:i<ls.length):∃ b o cap lv,v=.slice (some ⟨b,o,kY⟩) ls.length cap/\one lv=true/\ChI w lv ls[i]/\∀ w',No w w'->rdO prog 95 w' b (o+i)=some lv:=by
 obtain⟨rows,B,E,H⟩:=h;have A:i<rows.length:=om
 obtain⟨mv,e,I,g⟩:=H i A hi;obtain⟨b,o,cap,rfl,J⟩:=B.pos x9 om;refine⟨b,o,cap,mv,by rw[E],I,g,fun w' f=>?_⟩;have:=(B.fr0 f).fld (P:=prog) (t:=95) agg95 A (j:=0) x9 (x:=mv) (by rw[e];rfl);rw[yK,yF]at this;exact this
def totC (ls:List (List Bat.Ch))(i:Nat):Nat:=((ls.take i).map List.length).sum
theorem totC_succ (h:i<ls.length):totC ls (i+1)=totC ls i+ls[i].length:=by
 unfold totC;rw[tSg h,List.map_append,List.sum_append];simp
theorem totC_mono (ls:List (List Bat.Ch)){i j:Nat}(h:i<=j):totC ls i<=totC ls j:=by
 obtain⟨d,rfl⟩:∃ d,j=i+d:=⟨j - i,om⟩
 clear h
 induction d with
 | zero=>exact xC _
 | succ d A =>
  by_cases B:i+d<ls.length
  ·have:=totC_succ B;rw[show i+(d+1)=i+d+1 by omega];omega
  ·have e:∀ k,ls.length<=k->totC ls k=totC ls ls.length:=fun k E=>by unfold totC;rw[zG E,List.take_length]
   rw[e (i+(d+1)) om,<- e (i+d) om];exact A
def MpsOk (ls:List (List Bat.Ch))(i:Nat)(ms:List (List En)):Prop:=(∀ m ∈ ms,MapOk m/\m.length<=totC ls i)/\ms.length<=i/\2*wsum [] ms<=totC ls i*(totC ls i+1)
def mpI (b:World)(lv:Value)(ls:List (List Bat.Ch))(n:Nat)(vs:List Value)(w:World):Prop :=
 ∃ (i:Nat) (A mv:Value) (ms:List (List En)),vs=[lv,A,mv,.int .i64 (i:Nat)]/\i<=ls.length/\n=ls.length - i/\MsT b w A ms/\EnO b w mv (([]::ms).getLast sm)/\No b w/\MpsOk ls i ms
theorem maps (J:World)(h:LsI J lv ls)(hL:ls.length<=2 ^ 21)(hT:totC ls ls.length<=2 ^ 16):Fn prog 15 #[lv] J fun v w'=>No J w'/\∃ ms,MsT J w' v ms/\MpsOk ls ls.length ms:=by
 refine go15 sm ?_;obtain⟨la,lc,rfl,b4⟩:=h.slice;simp -implicitDefEqProofs only[go_sem,Tryz.f15];refine loopD [0,3,4,5] (mpI J (.slice la ls.length lc) ls) ls.length ⟨0,nil0,nil0,[],rfl,jK _,rfl,⟨[],NwR.nil _ _ _ _,rfl,fun i h=>absurd h sm⟩,⟨[],NwR.nil _ _ _ _,rfl,fun i h=>absurd h sm⟩,Fr.refl _ _,(fun m h=>by cases h),xC _,jK _⟩ ?_;rintro _ vs w g ⟨i,a0,mv,ms,rfl,hi,rfl,hM,hE,f,A,a3,H⟩;have d1:=natlt i ls.length
 by_cases I:i<ls.length
 case neg =>
  rw[decide_eq_false I]at d1;obtain rfl:i=ls.length:=om
  simp -implicitDefEqProofs only[go_sem,yJ,d1];exact⟨f,ms,hM,A,a3,H⟩
 rw[decide_eq_true I]at d1;obtain⟨b,o,cap,cv,e1,oc,hc,hr⟩:=h.at I;cases e1;have a4:=totC_succ I;have b5:=totC_mono ls (show i+1<=ls.length by omega);generalize ls[i]=cs at *;have rr:=hr w f;have y1:=iBd (i:=i) (n:=ls.length);have c1:=iSu (i:=i);simp -implicitDefEqProofs only[go_sem,yJ,y1,and_self,iTn,yK,rr];refine qQa pl28 ((normal3i w (hc.fr0 f)).mono ?_);rintro _ w2 ⟨T,nv,e,rfl,he,hn⟩;have L:=f.trans T
 by_cases h0:e=0
 case neg =>
  have hb:(e == 0)=false:=beq_eq_false_iff_ne.2 h0;simp -implicitDefEqProofs only[go_sem,yJ,hb,c1];refine⟨ls.length - (i+1),om,i+1,a0,mv,ms,rfl,om,rfl,hM.fr0 T,hE.fr0 T,L,fun m hm=>⟨(A m hm).1,?_⟩,om,?_⟩
  ·have:=(A m hm).2
   omega
  ·exact Nat.le_trans H (Nat.mul_le_mul om om)
 subst h0;obtain⟨h4,a5,hnd⟩:=he.1 rfl;obtain⟨l,hl,hp,_⟩:=hn rfl;have U:=hc.key;have b1:l.length=cs.length:=by rw[hp.length_eq,zB]
 have V:∀ c ∈ l,c.Ok:=fun c a6=>by
  obtain⟨d,hd,rfl⟩:=List.mem_map.1 (hp.mem_iff.1 a6);exact plP_ok (U d hd) (a5 d hd)
 have W:(l.map Bat.Ch.key).Nodup:=by
  refine (hp.map Bat.Ch.key).nodup_iff.2 ?_;rw[List.map_map];exact hnd
 have E:MapOk (([]::ms).getLast sm)/\(([]::ms).getLast sm).length<=totC ls i:=by
  rcases List.mem_cons.1 (List.getLast_mem (l:=[]::ms) sm) with B | B
  ·rw[B];exact⟨⟨⟨List.Pairwise.nil,fun e h=>by cases h⟩,fun e h=>by cases h⟩,jK _⟩
  ·exact A _ B
 simp -implicitDefEqProofs only[go_sem,yJ,bSe];refine qQa pl29 ((apply3g w2 J L.size (hE.fr0 T) hl V W om om E.1).mono ?_);rintro v3 w3 ⟨f3,m',M,a7,b3,N⟩;have Y:=L.trans f3;obtain⟨O,R,rfl,_⟩:=M.slice;obtain⟨v4,w4,q4,a8,F4⟩:=((hM.fr0 T).fr0 f3).push Y M om;simp -implicitDefEqProofs only[go_sem,yJ,yN,jY];refine qQm (v:=.slice (some ⟨w3.heap.size,0,none⟩) 1 1) (w':=w3.alloc (.cells #[.slice O m'.length R] 84)) (qXb (K:=1) x9 x9 (y:=[nil0]) rfl rfl rfl _) ?_;simp -implicitDefEqProofs only[go_sem,yJ];refine qQj ⟨v4,w4,q4,?_⟩;simp -implicitDefEqProofs only[go_sem,yJ,c1]
 have a9:EnO J w4 (.slice O m'.length R) m':=M.frT F4 fun x c B hF=>by
  obtain⟨_,c',t',b6,g2,g3⟩:=hF
  rcases B with B | B <;> rw[B]at g2 <;> cases g2 <;> exact absurd g3 x9
 refine⟨ls.length - (i+1),om,i+1,v4,.slice O m'.length R,ms++[m'],rfl,om,rfl,a8,?_,TF.no Y F4,fun m hm=>?_,by rw[lAp];show ms.length+1<=_;omega,?_⟩
 ·have:(([]::(ms++[m'])).getLast sm:List En)=m':=by simp only[<- List.cons_append,List.getLast_concat]
  rw[this];exact a9
 ·rcases List.mem_append.1 hm with B | B
  ·have:=(A m B).2
   exact⟨(A m B).1,om⟩
  ·rw[List.mem_singleton.1 B]
   have:=E.2;exact⟨a7,om⟩
 ·rw[wsum_snoc,a4]
  by_cases Z:cs=[]
  ·subst Z
   have:l=[]:=List.length_eq_zero_iff.1 om;rw[if_pos (N this)];exact H
  ·have b0:1<=cs.length:=List.length_pos_iff.2 Z
   have b7:=tri b0 H;have:=E.2
   split <;> omega
end A
end
section
namespace A
open Aud R
theorem msR_one {b cap:Nat}{mv:Value}{e:En}(k:w.heap[b]?=some (.cells #[mv] el (0,0)))(B:one mv=true)(E:EnR w mv [e])(A:1<=cap):MsR w (.slice (some ⟨b,0,kY⟩) 1 cap) [[e]]:=by
 refine⟨[[mv]],⟨fun r H=>?_,rfl,_,cap,rfl,A,fun _=>⟨b,0,rfl,fun i hi=>?_⟩⟩,rfl,fun i h I=>?_⟩
 ·rw[List.mem_singleton.1 H];exact⟨rfl,by simp[B]⟩
 ·obtain rfl:i=0:=by have:i<1:=hi;omega
  rw[qXe k];rfl
 ·obtain rfl:i=0:=by have:i<1:=h;omega
  exact⟨mv,rfl,B,E⟩
def smMs:List (List En):=[[(kz,[7])]]
theorem smMs_ok:∀ m ∈ smMs,MapOk m/\m.length<=2 ^ 16:=fun m h=>by
 rw[List.mem_singleton.1 h];exact⟨⟨⟨List.pairwise_singleton _ _,fun x A=>by rw[List.mem_singleton.1 A];exact kz_len⟩,fun x A=>by rw[List.mem_singleton.1 A];decide⟩,x9⟩
theorem smMs_len:(imgP 3 0 [] .nil 2 smMs).length=2:=by
 have A:Aud.lay 256 0 true .nil [(kz,[7])] 2=(.leaf 2 kz [7],3):=lay_one 256 0 true (show PT.Wf 0 .nil from trivial) kz [7] 2;unfold smMs;rw[imgP,A,imgP,lAp,zB]
 rfl
theorem small17 (w:World)(R:Tabs w)(H:DivT w):Fn prog 9 #[] w fun v w'=>NwB w w' v (dskP 3 smMs 5)/\No w w':=by
 refine go9 sm ?_;simp -implicitDefEqProofs only[go_sem,yN,jY,Tryz.f9];refine qQm (v:=.slice (some ⟨w.heap.size,0,none⟩) 1 1) (w':=w.alloc (.cells (bl [7]) 5)) rfl ?_;have T:(w.alloc (.cells (bl [7]) 5)).heap[w.heap.size]?=some (.cells (bl [7]) 5 (0,0)):=qQb _ _;have U:No w (w.alloc (.cells (bl [7]) 5)):=(Fr.refl _ _).alloc _;generalize w.alloc (.cells (bl [7]) 5)=A at *;have L:=row_by (m:=1) (cap:=1) T sm (xC _);rw[zG sm]at L;have V:=bldEn (a:=some ⟨w.heap.size,0,.none⟩) (n:=1) (c:=1);generalize I:Value.slice (some ⟨w.heap.size,0,.none⟩) 1 1=vv at *;have W:one vv=true:=by rw[<- I];rfl
 have rl:(enRow (kz,[7]) vv).length=33:=by simp[enRow,kz_len]
 simp -implicitDefEqProofs only[go_sem,yN,jY,qQk,V];refine qQm (v:=.slice (some ⟨A.heap.size,0,none⟩) 1 1) (w':=A.alloc (.cells (enRow (kz,[7]) vv).toArray 83)) (qXb (K:=33) x9 x9 (y:=enRow (kz,[7]) nil0) (by rfl) (by rw[List.size_toArray];exact rl) (by rw[List.size_toArray];exact rl) _) ?_;have Y:(A.alloc (.cells (enRow (kz,[7]) vv).toArray 83)).heap[A.heap.size]?=some (.cells (enRow (kz,[7]) vv).toArray 83 (0,0)):=qQb _ _;have M:No A (A.alloc (.cells (enRow (kz,[7]) vv).toArray 83)):=(Fr.refl _ _).alloc _;generalize A.alloc (.cells (enRow (kz,[7]) vv).toArray 83)=E at *;have Z:=enR_one kz_len W (L.fr0 M) Y;simp -implicitDefEqProofs only[go_sem,yN,jY];refine qQm (v:=.slice (some ⟨E.heap.size,0,none⟩) 1 1) (w':=E.alloc (.cells #[.slice (some ⟨A.heap.size,0,.none⟩) 1 1] 84)) rfl ?_;have k3:(E.alloc (.cells #[.slice (some ⟨A.heap.size,0,.none⟩) 1 1] 84)).heap[E.heap.size]?=some (.cells #[.slice (some ⟨A.heap.size,0,.none⟩) 1 1] 84 (0,0)):=qQb _ _;have N:No E (E.alloc (.cells #[.slice (some ⟨A.heap.size,0,.none⟩) 1 1] 84)):=(Fr.refl _ _).alloc _;generalize E.alloc (.cells #[.slice (some ⟨A.heap.size,0,.none⟩) 1 1] 84)=w3 at *;simp -implicitDefEqProofs only[go_sem];have B:=(U.trans M).trans N;have J:=msR_one k3 rfl (Z.fr0 N) (xC 1);refine qQa pl14 ((disk17 w3 (R.no B) (H.no B) 3 5 (ms:=smMs) J smMs_ok x9 (by rw[show ((3:Nat):Int)=3 from rfl,smMs_len];decide) x9).mono ?_);rintro v4 w4 ⟨f4,O⟩;rw[if_pos (show markP 3 smMs<=5 by unfold markP;rw[show ((3:Nat):Int)=3 from rfl,smMs_len];decide)]at O;simp -implicitDefEqProofs only[go_sem];exact And.intro (NwB.back O B.size) (B.trans f4)
theorem burst_stop {pat:W32}(h:2048<=b+i):∀ n,i<=n->qQn im q b pat n=qQn im q b pat i/\qQu q b pat n=qQu q b pat i:=by
 intro n
 induction n with
 | zero =>
  intro B;have:i=0:=om
  subst this;exact⟨rfl,rfl⟩
 | succ n E =>
  intro B
  by_cases e:i=n+1
  ·subst e;exact⟨rfl,rfl⟩
  ·obtain⟨H,I⟩:=E om
   have A:¬ hitP b pat n:=fun J=>by have:=J.1;omega
   have L:qQn im q b pat (n+1)=qQn im q b pat n:=if_neg A;have M:qQu q b pat (n+1)=qQu q b pat n+0:=by show qQu q b pat n+(if hitP b pat n then _ else 0)=_;rw[if_neg A]
   exact⟨L.trans H,M.trans I⟩
theorem bit32 (pat:W32)(i:Nat):((((pat >>> i) &&& 1#32).toNat:Int) == 1)=pat.getLsbD i:=by
 have e:(pat >>> i) &&& 1#32=if pat.getLsbD i then 1#32 else 0#32:=by
  refine BitVec.eq_of_getLsbD_eq fun j B=>?_;rw[BitVec.getLsbD_and,BitVec.getLsbD_one,BitVec.getLsbD_ushiftRight]
  by_cases A:j=0
  ·subst A
   rw[yF]
   cases pat.getLsbD i <;> simp
  ·cases pat.getLsbD i <;> simp[A]
 rw[e]
 cases pat.getLsbD i <;> rfl
theorem shl8b (A:k<8):shlK .u8 1 (k:Int)=((1#8 <<< k).toNat:Int):=by
 have:k=0∨k=1∨k=2∨k=3∨k=4∨k=5∨k=6∨k=7:=om
 rcases this with rfl | rfl | rfl | rfl | rfl | rfl | rfl | rfl <;> rfl
def buI (B:World)(b o cap:Nat)(im:Bs)(H:Array Value)(E q A:Nat)(pat:W32)(m:Nat)(vs:List Value)(w:World):Prop :=
 ∃ i:Nat,vs=[u32 pat,.slice (some ⟨b,o,.none⟩) im.length cap,pt E 0,vi q,vi A,vi (qQu q A pat i),vi i]/\i<=32/\m=32 - i/\NwB B w (.slice (some ⟨b,o,.none⟩) im.length cap) (qQn im q A pat i)/\No B w/\w.heap[E]?=some (.cells H 25 (0,0))
theorem cnt_one {f g:Nat->Bool}(E:q<k)(h:∀ p,f p=(g p && decide (p≠q))):(qI k).countP f+(g q).toNat=(qI k).countP g:=by
 have:∀ n,n<=k->(qI n).countP f+(if q<n then (g q).toNat else 0)=(qI n).countP g:=by
  intro n
  induction n with
  | zero=>intro _;rfl
  | succ n A =>
   intro H;have A:=A om;rw[List.range_succ,rQ,rQ,kO,kO,h n];generalize (qI n).countP f=x at *;generalize (qI n).countP g=y at *
   by_cases e:n=q
   ·subst e
    rw[if_neg (Nat.lt_irrefl _)]at A;rw[if_pos (Nat.lt_succ_self _),decide_eq_false (fun h=>h rfl),Bool.and_false];cases g n
    ·show x+0+0=y+0;omega
    ·show x+0+1=y+1;omega
   ·rw[decide_eq_true e,Bool.and_true]
    by_cases B:q<n
    ·rw[if_pos B]at A
     rw[if_pos (show q<n+1 by omega)];cases g n
     ·show x+0+_=y+0;omega
     ·show x+1+_=y+1;omega
    ·rw[if_neg B]at A
     rw[if_neg (show ¬ q<n+1 by omega)];cases g n
     ·show x+0+0=y+0;omega
     ·show x+1+0=y+1;omega
 have:=this k (xC _)
 rwa [if_pos E]at this
theorem cnt_burst {pg A:Nat->Option Pg}(B:q<k)(E:∃ g, pg q=some g)(h:∀ p, A p=if p=q then none else pg p) :
  cntP isLf A k+cntP isBrn A k+(chK A k).length+1=cntP isLf pg k+cntP isBrn pg k+(chK pg k).length:=by
 have e:∀ (f:Option Pg->Bool),f none=false->∀ p,f (A p)=(f (pg p) && decide (p≠q)):=fun f T p=>by
  rw[h p]
  by_cases e:p=q
  ·rw[if_pos e,T];simp[e]
  ·rw[if_neg e];simp[e]
 have a:=cnt_one B (e isLf rfl);have b:=cnt_one B (e isBrn rfl);have c:=cnt_one B (e isRc rfl);have O:∀ pg:Nat->Option Pg,(chK pg k).length=(qI k).countP fun p=>isRc (pg p):=fun pg=>(List.countP_eq_length_filter ..).symm;rw[O,O];unfold cntP;obtain⟨g,E⟩:=E;rw[E]at a b c
 cases g with
 | nd n =>
  cases n with
  | leaf k v =>
   have a1:(isLf (some (.nd (.leaf k v)))).toNat=1:=rfl;have a2:(isBrn (some (.nd (.leaf k v)))).toNat=0:=rfl;have R:(isRc (some (.nd (.leaf k v)))).toNat=0:=rfl;omega
  | br H I J L M N =>
   have a1:(isLf (some (.nd (.br H I J L M N)))).toNat=0:=rfl;have a2:(isBrn (some (.nd (.br H I J L M N)))).toNat=1:=rfl;have R:(isRc (some (.nd (.br H I J L M N)))).toNat=0:=rfl;omega
 | rc r =>
  have a1:(isLf (some (.rc r))).toNat=0:=rfl;have a2:(isBrn (some (.rc r))).toNat=0:=rfl;have R:(isRc (some (.rc r))).toNat=1:=rfl;omega
end A
end
section
namespace A
open Aud R
def ClI (A w:World)(iv:Value)(n:Nat)(im:Bs)(s:Sup):Prop:=∃ b o cap,iv=.slice (some ⟨b,o,kY⟩) im.length cap/\NwB A w iv im/\lookP im=.ok (s,[])/\s.pages=n/\im.length=256*n/\3<=n/\n<=4096
theorem clI_dsk {E w:World}{wd n:Nat}{ms:List (List En)}(J:1<=wd/\wd<=32)(H:3<=n/\n<=4096)(B:∀ m ∈ ms,MapOk m)(A:markP wd ms<=n)(I:NwB E w iv (dskP wd ms n)):ClI E w iv n (dskP wd ms n) (nowS wd ms n):=by
 obtain⟨L,M⟩:=dsk_clean J H B A;obtain⟨b,o,cap,e,_⟩:=I.by.pos om
 exact⟨b,o,cap,e,I,L,rfl,M,H⟩
theorem fnR_one (k:w.heap[b]?=some (.cells #[.int .i64 (q:Nat),.int .i64 e] el (0,0))):RdR w 2 (.slice (some ⟨b,0,kY⟩) 1 1) (fnR [(q,e)]):=by
 refine⟨RowsOk.one rfl rfl,rfl,_,_,rfl,xC _,fun _=>⟨_,_,rfl,fun j A=>?_⟩⟩;rw[qXe k,jY,xI]
 rfl
theorem auditBursts (w:World)(ht:Tabs w)(e6:R.DivT w)(width pages page bit:Int)(pat:W32)(e7:LsI w lv ls)(hL:ls.length<=2 ^ 21)(hT:totC ls ls.length<=2 ^ 16)(hB:ls.length+129*(totC ls ls.length*(totC ls ls.length+1))<=2 ^ 37) :
  Fn prog 4 #[.int .i64 width,.int .i64 pages,lv,.int .i64 page,.int .i64 bit,u32 pat] w fun v w'=>v=.bool true/\No w w':=by
 refine go4 sm ?_;unfold DenF;refine qWa 4 (fun ev w2=>ev 3=.int .i64 page/\ev 4=.int .i64 bit/\ev 5=u32 pat/\No w w2/\∃ n im s,ev 13=vi n/\ClI w w2 (ev 14) n im s) ?_ ?_
 ·obtain⟨h5,h9⟩:=within_rng (n:=pages) (lo:=3) (hi:=4096) x9
  obtain⟨m2,m3⟩:=within_rng (n:=width) (lo:=1) (hi:=32) x9
  obtain⟨n,hn⟩:∃ n:Nat,qJj pages 3 4096=(n:Int):=⟨(qJj pages 3 4096).toNat,om⟩
  obtain⟨wd,k0⟩:∃ n:Nat,qJj width 1 32=(n:Int):=⟨(qJj width 1 32).toNat,om⟩
  obtain⟨la,lc,rfl,_⟩:=e7.slice;simp -implicitDefEqProofs only[go_sem,yJ,vH,jY,Tryz.f4];refine qQa pl13 ((within w (n:=pages) (lo:=3) (hi:=4096) x9 x9 x9).mono ?_);rintro _ w1 ⟨rfl,f1⟩;rw[hn];simp -implicitDefEqProofs only[go_sem,yJ];refine qQa pl13 ((within w1 (n:=width) (lo:=1) (hi:=32) x9 x9 x9).mono ?_);rintro _ w2 ⟨rfl,f2⟩;rw[k0];have e8:=f1.trans f2;simp -implicitDefEqProofs only[go_sem,yJ];refine qQa pl15 ((maps w2 (e7.fr0 e8) hL hT).mono ?_);rintro mv L ⟨f3,ms,hM,a8,m4,e9⟩;have a9:=e8.trans f3;have m5:=totC_mono ls (xC ls.length);have m6:=img_bound (wd:=(wd:Int)) (first:=0) ms (ats:=[]) (old:=.nil) (next:=2) trivial (fun p hp=>by cases hp) (xC _) fun m hm=>(a8 m hm).1.1;have e9:2*wsum PT.nil.ents ms<=_:=e9;simp -implicitDefEqProofs only[go_sem,yJ];refine qQa pl14 ((disk17 L (ht.no a9) (e6.no a9) wd n hM.rd (fun m hm=>⟨(a8 m hm).1,by have:=(a8 m hm).2;omega⟩) om om om).mono ?_);rintro dv U ⟨f4,hd⟩;have O:=a9.trans f4
  by_cases a5:markP wd ms<=n
  ·rw[if_pos a5]at hd
   have hc:=clI_dsk om om (fun m hm=>(a8 m hm).1) a5 (NwB.back hd a9.size);obtain⟨b,o,cap,e,_⟩:=id hc;rw[e];simp -implicitDefEqProofs only[go_sem];refine⟨?_,?_,?_,O,n,dskP wd ms n,nowS wd ms n,?_,?_⟩
   rotate_left 4
   ·simp -implicitDefEqProofs only[go_sem,yJ]
    rw[<- e];exact hc
   all_goals simp -implicitDefEqProofs only[go_sem,yJ]
  ·rw[if_neg a5]at hd
   subst hd;simp -implicitDefEqProofs only[go_sem];refine qQa pl9 ((small17 U (ht.no O) (e6.no O)).mono ?_);rintro sv J ⟨b5,f5⟩;simp -implicitDefEqProofs only[go_sem];have hc:=clI_dsk x9 x9 (fun m hm=>(smMs_ok m hm).1) (show markP 3 smMs<=5 by unfold markP;rw[show ((3:Nat):Int)=3 from rfl,smMs_len];decide) (NwB.back b5 O.size);refine⟨?_,?_,?_,O.trans f5,5,dskP 3 smMs 5,nowS 3 smMs 5,?_,?_⟩
   rotate_left 4
   ·simp -implicitDefEqProofs only[go_sem,yJ]
    exact hc
   all_goals simp -implicitDefEqProofs only[go_sem,yJ]
   rfl
 rintro ev w2 ⟨e3,e4,e5,f2,n,im,s,f0,b,o,cap,Z,a0,E,k1,m7,h5,h9⟩;rw[Z]at a0;obtain⟨k2,k5⟩:=within_rng (n:=page) (lo:=0) (hi:=(n:Int) - 1) om;obtain⟨k9,l0⟩:=within_rng (n:=bit) (lo:=0) (hi:=2047) x9
 obtain⟨q,hq⟩:∃ q:Nat,qJj page 0 ((n:Int) - 1)=(q:Int):=⟨(qJj page 0 ((n:Int) - 1)).toNat,om⟩
 obtain⟨A,g0⟩:∃ q:Nat,qJj bit 0 2047=(q:Int):=⟨(qJj bit 0 2047).toNat,om⟩
 have m8:q<n:=om
 have l9:A<=2047:=om
 have hs:=(clean_one E).2.1
 refine qWa 6 (fun ev U=>ev 14=.slice (some ⟨b, o, .none⟩) im.length cap/\ev 17=vi q/\ev 19=vi (qQu q A pat 32)/\No w U/\NwB w U (.slice (some ⟨b, o, .none⟩) im.length cap) (qQn im q A pat 32)/\∃ rb ft lt fv, ev 15=pt rb 0/\U.heap[rb]?=some (.cells (rpC s.width s.pages s.mark s.head ft lt (cntP isLf (pgF im s.mark) s.mark) (cntP isBrn (pgF im s.mark) s.mark) (chK (pgF im s.mark) s.mark).length fv) 25 (0, 0))/\RdR U 2 fv (fnR []) /\
   ft=(if isRc (pgF im s.mark s.head) then (rcAt (pgF im s.mark) s.head).first else 0)/\lt=(if isRc (pgF im s.mark s.head) then (rcAt (pgF im s.mark) s.head).ver else 0)) ?_ ?_
 ·simp -implicitDefEqProofs only[go_sem,Tryz.f4,qKc,tailC,Z]
  refine qQa pl8 ((check w2 (ht.no f2) a0.by om).mono ?_);rintro v3 L B;unfold CkQ at B;obtain⟨f3,B⟩:=B;rw[E]at B;obtain⟨fv,B,T⟩:=B;subst B;obtain⟨fa,fc,rfl,_⟩:=T.rd.slice;have z3:(fnR []).length=0:=rfl;rw[z3]at T ⊢;generalize g1:(if isRc (pgF im s.mark s.head) then (rcAt (pgF im s.mark) s.head).first else 0)=ft at *;generalize g2:(if isRc (pgF im s.mark s.head) then (rcAt (pgF im s.mark) s.head).ver else 0)=lt at *;generalize cntP isLf (pgF im s.mark) s.mark=c1 at *;generalize cntP isBrn (pgF im s.mark) s.mark=c2 at *;generalize (chK (pgF im s.mark) s.mark).length=c3 at *;obtain⟨W3,g3,g4,k3,s3⟩:=qQl L rp0 25;have zz:jA 9 (vM .i64 0)++#[Value.slice none 0 0]=rp0:=x8
  generalize a3:rpC s.width s.pages s.mark s.head ft lt c1 c2 c3 (.slice fa 0 fc)=N at *;have a4:N.size=10:=by rw[<- a3];rfl
  have c0:N.all one=true:=by rw[<- a3,<- kU];rfl
  have q3:wrO prog 25 W3 L.heap.size 0 (.agg N)=some (put W3 L.heap.size (.cells N 25 (0,0))):=qQr (by rw[a4];exact sz25) k3 (by rw[a4];rfl) c0;have k4:=qQd (o:=.cells N 25 (0,0)) k3;have f4:No L (put W3 L.heap.size (.cells N 25 (0,0))):=g4.put (b:=L.heap.size) _ fun h=>by omega
  have l1:=qQh k4;have m0:=(NwB.lt a0 (show qQc _=some b from rfl)).2;have m9:=f3.size;simp -implicitDefEqProofs only[go_sem,yJ,yN,bSe,bNe,jY,zz,g3,q3];generalize put W3 L.heap.size (.cells N 25 (0,0))=U at *;have g5:=f3.trans f4;have O:=f2.trans g5;have r9:rdO prog 23 U L.heap.size 9=some (.slice fa 0 fc):=rd1 agg23 k4 (by rw[<- a3];rfl);have r1:rdO prog 3 U L.heap.size 1=some (vi n):=rd1 agg3 k4 (by rw[<- a3,<- k1];rfl);have dz:((0:Int) != 0)=false:=rfl;have l2:(((0:Nat):Int) != 0)=false:=rfl;have an:IntKind.i64.wrap ((n:Int) - 1)=(n:Int) - 1:=qQq om om;simp -implicitDefEqProofs only[go_sem,yJ,bSe,bNe,jY,r9,r1,l2,f0,e3,an];refine qQa pl13 ((within U (n:=page) (lo:=0) (hi:=(n:Int) - 1) x9 om om).mono ?_);rintro _ J ⟨rfl,f5⟩;rw[hq];simp -implicitDefEqProofs only[go_sem,yJ,e4];refine qQa pl13 ((within J (n:=bit) (lo:=0) (hi:=2047) x9 x9 x9).mono ?_);rintro _ w6 ⟨rfl,f6⟩;rw[g0];have b0:=f5.trans f6;have k6:=b0.at k4 id;have h6:=(a0.fr0 g5).fr0 b0;have l3:=O.trans b0;have m1:=(T.fr0 f4).fr0 b0;have g6:L.heap.size≠b:=om
  have n0:∀ x,qQc (.slice fa 0 fc)=some x->x≠b:=fun x hx=>by have:=(NwR.lt T hx).1;omega
  clear r9 r1 q3 g3 k3 s3 g4 W3 l1;simp -implicitDefEqProofs only[go_sem];refine loopD [5,14,15,17,18,19,20] (buI w b o cap im N L.heap.size q A pat) 32 ⟨0,?_,x9,rfl,h6,l3,k6⟩ ?_
  ·simp -implicitDefEqProofs only[go_sem,yJ,e5,Z]
   rfl
  clear h6 k6;rintro _ vs H g ⟨i,rfl,hi,rfl,h7,f7,k7⟩;have d1:decide ((i:Int)<32)=decide (i<32):=decide_eq_decide.2 om;have a1:IntKind.i64.wrap ((A:Int)+(i:Int))=((A+i:Nat):Int):=qXi;have d2:decide (((A+i:Nat):Int)<2048)=decide (A+i<2048):=decide_eq_decide.2 om;have c1:=iSu (i:=i)
  have n3:qQn im q A pat i=qQn im q A pat 32->qQu q A pat i=qQu q A pat 32->No w H/\NwB w H (.slice (some ⟨b,o,.none⟩) im.length cap) (qQn im q A pat 32):=fun e1 _=>⟨f7,by rw[<- e1];exact h7⟩
  have g7:RdR H 2 (.slice fa 0 fc) (fnR []):=⟨RowsOk.nil _,rfl,fa,fc,rfl,jK _,fun h=>absurd h x9⟩
  by_cases g8:i<32
  case neg =>
   rw[decide_eq_false g8]at d1;obtain rfl:i=32:=om
   simp -implicitDefEqProofs only[go_sem,yJ,qQx,d1]
   refine⟨?_,?_,?_,f7,h7,L.heap.size,ft,lt,.slice fa 0 fc,?_,by rw[a3];exact k7,g7,rfl,rfl⟩ <;> simp -implicitDefEqProofs only[go_sem,yJ]
  rw[decide_eq_true g8]at d1
  by_cases c7:A+i<2048
  case neg =>
   rw[decide_eq_false c7]at d2;obtain⟨z1,z2⟩:=burst_stop (im:=im) (q:=q) (pat:=pat) (i:=i) (b:=A) om 32 hi;simp -implicitDefEqProofs only[go_sem,yJ,bSe,d1,a1,d2]
   refine⟨?_,?_,?_,f7,by rw[z1];exact h7,L.heap.size,ft,lt,.slice fa 0 fc,?_,by rw[a3];exact k7,g7,rfl,rfl⟩ <;> simp -implicitDefEqProofs only[go_sem,yJ,z2]
  rw[decide_eq_true c7]at d2;have u1:IntKind.u64.wrap (i:Int)=i:=u64id i om;have v1:((i:Int)<0)=False:=eq_false om;have x1:=shr32 pat i om;have x2:=and32_1 (pat >>> i);have x3:=bit32 pat i
  cases M:pat.getLsbD i with
  | false =>
   rw[M]at x3;have hh:¬ hitP A pat i:=fun hc=>by rw[hc.2]at M;cases M
   have z1:qQn im q A pat (i+1)=qQn im q A pat i:=if_neg hh;have z2:qQu q A pat (i+1)=qQu q A pat i:=by show qQu q A pat i+(if hitP A pat i then _ else 0)=_;rw[if_neg hh];rfl
   simp -implicitDefEqProofs only[go_sem,yJ,bSe,d1,a1,d2,u1,v1,if_false,x1,x2,x3,c1];exact⟨32 - (i+1),om,i+1,by rw[z2],om,rfl,by rw[z1];exact h7,f7,k7⟩
  | true =>
  rw[M]at x3
  have hh:hitP A pat i:=⟨c7,M⟩
  have n4:(qQn im q A pat i).length=im.length:=qZr ..;have n5:256*q+(A+i) / 8<im.length:=om
  have p1:IntKind.i64.wrap (256*(q:Int))=((256*q:Nat):Int):=i64n (n:=256*q);have n8:((8:Int)=0)=False:=sm
  have p2:IntKind.i64.wrap (((A+i:Nat):Int).tdiv 8)=(((A+i) / 8:Nat):Int):=by rw[show ((A+i:Nat):Int).tdiv 8=(((A+i) / 8:Nat):Int) from rfl];exact i64n
  have p3:IntKind.i64.wrap (((256*q:Nat):Int)+(((A+i) / 8:Nat):Int))=((256*q+(A+i) / 8:Nat):Int):=qXi;have p4:((A+i:Nat):Int).tmod 8=(((A+i) % 8:Nat):Int):=rfl;have u2:IntKind.u64.wrap (((A+i) % 8:Nat):Int)=(((A+i) % 8:Nat):Int):=u64id _ om;have x5:=shl8b (k:=(A+i) % 8) om;have ra:=h7.by.get (P:=prog) agg5 (i:=256*q+(A+i) / 8) om
  have x6:=xor8 ((qQn im q A pat i).getD (256*q+(A+i) / 8) 0) (1#8 <<< ((A+i) % 8));obtain⟨w8,q8,h8,V⟩:=NwB.setB h7 (i:=256*q+(A+i) / 8) om ((qQn im q A pat i).getD (256*q+(A+i) / 8) 0 ^^^ (1#8 <<< ((A+i) % 8)));have ya:(0:Int)<=((256*q+(A+i) / 8:Nat):Int)/\((256*q+(A+i) / 8:Nat):Int)<((im.length:Nat):Int):=om
  have z1:qQn im q A pat (i+1)=(qQn im q A pat i).set (256*q+(A+i) / 8) ((qQn im q A pat i).getD (256*q+(A+i) / 8) 0 ^^^ (1#8 <<< ((A+i) % 8))):=by
   show (if hitP A pat i then flipB (qQn im q A pat i) (8*(256*q+(A+i) / 8)+(A+i) % 8) else qQn im q A pat i)=_;rw[if_pos hh];unfold flipB;rw[show (8*(256*q+(A+i) / 8)+(A+i) % 8) / 8=256*q+(A+i) / 8 by omega,show (8*(256*q+(A+i) / 8)+(A+i) % 8) % 8=(A+i) % 8 by omega]
  have z2:qQu q A pat (i+1)=qQu q A pat i+(if q<2/\A+i<512 then 101 else 1):=by show qQu q A pat i+(if hitP A pat i then _ else 0)=_;rw[if_pos hh]
  have n6:=turned_le q A pat i;rw[<- z1]at h8;have k8:=V.at k7 g6
  have c8:No w w8:=f7.trans' V fun x hx h=>by
   have:=(NwB.lt a0 (show qQc _=some b from rfl)).1;subst h;omega
  generalize qQu q A pat i=tn at *;generalize hD:(qQn im q A pat i).getD (256*q+(A+i) / 8) 0 ^^^ (1#8 <<< ((A+i) % 8))=D8 at *;have t1:=iSu (i:=tn);have t2:IntKind.i64.wrap (((tn+1:Nat):Int)+100)=((tn+101:Nat):Int):=qXi (b:=100);have d3:decide ((q:Int)<2)=decide (q<2):=decide_eq_decide.2 om;have d4:decide (((A+i:Nat):Int)<512)=decide (A+i<512):=decide_eq_decide.2 om;have v2:((((A+i) % 8:Nat):Int)<0)=False:=eq_false om;simp -implicitDefEqProofs only[go_sem,yJ,bSe,d1,a1,d2,u1,v1,v2,x1,x2,x3,p1,n8,if_false,p2,p3,p4,u2,x5,ya,and_self,iTn,yK,ra,x6,q8]
  by_cases b3:q<2
  ·rw[decide_eq_true b3]at d3
   by_cases W:A+i<512
   ·rw[decide_eq_true W]at d4
    rw[if_pos ⟨b3,W⟩]at z2;simp -implicitDefEqProofs only[go_sem,bSe,t1,d3,d4,t2,c1];exact⟨32 - (i+1),om,i+1,by rw[z2],om,rfl,h8,c8,k8⟩
   ·rw[decide_eq_false W]at d4
    rw[if_neg fun h=>W h.2]at z2;simp -implicitDefEqProofs only[go_sem,bSe,t1,d3,d4,c1];exact⟨32 - (i+1),om,i+1,by rw[z2],om,rfl,h8,c8,k8⟩
  ·rw[decide_eq_false b3]at d3
   rw[if_neg fun h=>b3 h.1]at z2;simp -implicitDefEqProofs only[go_sem,qQx,t1,d3,c1];exact⟨32 - (i+1),om,i+1,by rw[z2],om,rfl,h8,c8,k8⟩
 clear e3 e4 e5 f0 Z a0 f2 k2 k5 k9 l0 hq g0;rintro ev U ⟨Z,c9,g9,f4,h1,rb,ft,lt,fv,a6,k4,T,g1,g2⟩;have n7:=turned_le q A pat 32;obtain⟨fa,fc,rfl,_⟩:=T.slice;have zz:jA 9 (vM .i64 0)++#[Value.slice none 0 0]=rp0:=x8
 have dh:decide ((qQu q A pat 32:Int) ≥ 100)=decide (100<=qQu q A pat 32):=decide_eq_decide.2 om;have t0:((qQu q A pat 32:Int) == 0)=decide (qQu q A pat 32=0):=nateq _ 0;simp -implicitDefEqProofs only[go_sem,Tryz.f4,qKc,tailC,Z];refine qQa pl8 ((check U (ht.no f4) h1.by (by rw[qZr];omega)).mono ?_);rintro v5 J B;unfold CkQ at B;obtain⟨f5,B⟩:=B;obtain⟨W6,h3,f6,k6,s6⟩:=qQl J rp0 25;have d0:=f4.trans f5;have g6:=qQh k4;have n9:=f5.size
 by_cases b4:100<=qQu q A pat 32
 ·obtain⟨_,_,_,h2,_⟩:=turned_high (xC 32) b4
  rw[burst_super E h2 b4]at B;subst B;rw[decide_eq_true b4]at dh;have q6:wrO prog 25 W6 J.heap.size 0 (.agg rp0)=some (put W6 J.heap.size (.cells rp0 25 (0,0))):=qQr sz25 k6 rfl (by rw[<- kU];rfl);have f7:No w (put W6 J.heap.size (.cells rp0 25 (0,0))):=(d0.trans f6).put (b:=J.heap.size) _ fun h=>by have:=d0.size;omega
  simp -implicitDefEqProofs only[go_sem,yJ,yN,bSe,zz,h3,q6,g9,dh];exact f7
 rw[decide_eq_false b4]at dh
 obtain⟨fs, l5, d7⟩:∃ fs, lookP (qQn im q A pat 32)=.ok (s, fs)/\(((qQu q A pat 32=0∨s.mark<=q)/\fs=[]/\pgF (qQn im q A pat 32) s.mark=pgF im s.mark)∨(¬ (qQu q A pat 32=0∨s.mark<=q)/\q<2/\fs=[(q, 53)])∨(¬ (qQu q A pat 32=0∨s.mark<=q)/\¬ q<2/\fs=[(q, 52)] /\
   cntP isLf (pgF (qQn im q A pat 32) s.mark) s.mark+cntP isBrn (pgF (qQn im q A pat 32) s.mark) s.mark+(chK (pgF (qQn im q A pat 32) s.mark) s.mark).length+1=cntP isLf (pgF im s.mark) s.mark+cntP isBrn (pgF im s.mark) s.mark+(chK (pgF im s.mark) s.mark).length)):=by
  by_cases Y:qQu q A pat 32=0∨s.mark<=q
  ·obtain⟨a,c⟩:=burst_none (b:=A) (pat:=pat) E om Y
   exact⟨_,a,.inl ⟨Y,rfl,c⟩⟩
  ·by_cases h2:q<2
   ·exact⟨_,burst_slot E h2 (fun h=>Y (.inl h)) om,.inr (.inl ⟨Y,h2,rfl⟩)⟩
   ·obtain⟨a,c,d⟩:=burst_page (b:=A) (pat:=pat) E om om (fun h=>Y (.inl h))
    exact⟨_,a,.inr (.inr ⟨Y,h2,rfl,cnt_burst om c d⟩)⟩
 rw[l5]at B;obtain⟨p0,B,a7⟩:=B;subst B;obtain⟨ga,gc,rfl,_⟩:=a7.rd.slice;have l6:=fnR_len fs;rw[l6]at a7 ⊢;have p5:=hs.2.2.2.1
 have cb:∀ pg:Nat->Option Pg,cntP isLf pg s.mark<=s.mark/\cntP isBrn pg s.mark<=s.mark/\(chK pg s.mark).length<=s.mark:=fun pg=>⟨cntP_le _ _ _,cntP_le _ _ _,chK_len _ _⟩
 obtain⟨x1,x2,x3⟩:=cb (pgF im s.mark);obtain⟨y1,y2,y3⟩:=cb (pgF (qQn im q A pat 32) s.mark);have p6:s.mark<=4096:=om
 generalize I:rpC s.width s.pages s.mark s.head (if isRc (pgF (qQn im q A pat 32) s.mark s.head) then (rcAt (pgF (qQn im q A pat 32) s.mark) s.head).first else 0) (if isRc (pgF (qQn im q A pat 32) s.mark s.head) then (rcAt (pgF (qQn im q A pat 32) s.mark) s.head).ver else 0) (cntP isLf (pgF (qQn im q A pat 32) s.mark) s.mark) (cntP isBrn (pgF (qQn im q A pat 32) s.mark) s.mark) (chK (pgF (qQn im q A pat 32) s.mark) s.mark).length (.slice ga fs.length gc)=N;have a4:N.size=10:=by rw[<- I];rfl
 have c0:N.all one=true:=by rw[<- I,<- kU];rfl
 have q6:wrO prog 25 W6 J.heap.size 0 (.agg N)=some (put W6 J.heap.size (.cells N 25 (0,0))):=qQr (by rw[a4];exact sz25) k6 (by rw[a4];rfl) c0;have k7:=qQd (o:=.cells N 25 (0,0)) k6;have b6:No J (put W6 J.heap.size (.cells N 25 (0,0))):=f6.put (b:=J.heap.size) _ fun h=>by omega
 have ze:((0:Int) != 0)=false:=rfl;simp -implicitDefEqProofs only[go_sem,yJ,vH,yN,bNe,zz,h3,q6,g9,dh];generalize put W6 J.heap.size (.cells N 25 (0,0))=H at *;have d8:=(f5.trans b6).at k4 id;have b7:=d0.trans b6;have b9:=(T.fr0 f5).fr0 b6;have b8:=a7.fr0 b6;have r2:rdO prog 3 H rb 2=some (vi s.mark):=rd1 agg3 d8 rfl;have d5:decide ((q:Int) ≥ (s.mark:Int))=decide (s.mark<=q):=decide_eq_decide.2 om;have d6:decide ((q:Int)<2)=decide (q<2):=decide_eq_decide.2 om;have r9:rdO prog 23 H J.heap.size 9=some (.slice ga fs.length gc):=rd1 agg23 k7 (by rw[<- I];rfl)
 rcases d7 with ⟨Y,rfl,hpg⟩ | ⟨Y,h2,rfl⟩ | ⟨Y,h2,rfl,h4⟩
 ·have l7:=qQp (P:=prog) (t:=25) agg25 sz25 k7 a4
  have l4:=qQp (P:=prog) (t:=25) agg25 sz25 d8 rfl;rw[hpg,<- g1,<- g2]at I
  by_cases d9:qQu q A pat 32=0
  ·rw[decide_eq_true d9]at t0
   simp -implicitDefEqProofs only[go_sem,yJ,qZj,t0,l7,l4,a6];rw[<- I];refine qQa pl16 ((sameReport H (l:=[]) b8.rd b9 x9).mono ?_);rintro _ w8 ⟨rfl,V⟩;simp -implicitDefEqProofs only[go_sem];exact b7.trans V
  ·rw[decide_eq_false d9]at t0
   rw[decide_eq_true (Y.resolve_left d9)]at d5;simp -implicitDefEqProofs only[go_sem,yJ,bSe,jY,t0,c9,a6,r2,d5,l7,l4];rw[<- I];refine qQa pl16 ((sameReport H (l:=[]) b8.rd b9 x9).mono ?_);rintro _ w8 ⟨rfl,V⟩;simp -implicitDefEqProofs only[go_sem];exact b7.trans V
 ·rw[decide_eq_false fun h=>Y (.inl h)]at t0
  rw[decide_eq_false fun h=>Y (.inr h)]at d5;rw[decide_eq_true h2]at d6;have b1:=bldFn q 53;simp -implicitDefEqProofs only[go_sem,yJ,yN,bSe,jY,t0,c9,a6,r2,d5,d6,r9,b1];refine qQm (v:=.slice (some ⟨H.heap.size,0,none⟩) 1 1) (w':=H.alloc (.cells #[.int .i64 (q:Nat),.int .i64 53] 43)) (qXb (K:=2) x9 x9 (y:=[.int .i64 0,.int .i64 0]) rfl rfl rfl _) ?_;have k8:(H.alloc (.cells #[.int .i64 (q:Nat),.int .i64 53] 43)).heap[H.heap.size]?=some (.cells #[.int .i64 (q:Nat),.int .i64 53] 43 (0,0)):=qQb _ _;have V:No H (H.alloc (.cells #[.int .i64 (q:Nat),.int .i64 53] 43)):=(Fr.refl _ _).alloc _;generalize H.alloc (.cells #[.int .i64 (q:Nat),.int .i64 53] 43)=w8 at *;simp -implicitDefEqProofs only[go_sem,yJ];refine qQa pl17 ((sameFound w8 (l:=[(q,53)]) (m:=[(q,53)]) (b8.fr0 V).rd (fnR_one k8) (show 1<=2 ^ 40 by decide)).mono ?_);rintro _ w9 ⟨rfl,f9⟩;rw[decide_eq_true rfl];simp -implicitDefEqProofs only[go_sem];exact (b7.trans V).trans f9
 ·rw[decide_eq_false fun h=>Y (.inl h)]at t0
  rw[decide_eq_false fun h=>Y (.inr h)]at d5;rw[decide_eq_false h2]at d6;have b1:=bldFn q 52;simp -implicitDefEqProofs only[go_sem,yJ,yN,bSe,jY,t0,c9,a6,r2,d5,d6,r9,b1];refine qQm (v:=.slice (some ⟨H.heap.size,0,none⟩) 1 1) (w':=H.alloc (.cells #[.int .i64 (q:Nat),.int .i64 52] 43)) (qXb (K:=2) x9 x9 (y:=[.int .i64 0,.int .i64 0]) rfl rfl rfl _) ?_;have k8:(H.alloc (.cells #[.int .i64 (q:Nat),.int .i64 52] 43)).heap[H.heap.size]?=some (.cells #[.int .i64 (q:Nat),.int .i64 52] 43 (0,0)):=qQb _ _;have V:No H (H.alloc (.cells #[.int .i64 (q:Nat),.int .i64 52] 43)):=(Fr.refl _ _).alloc _;generalize H.alloc (.cells #[.int .i64 (q:Nat),.int .i64 52] 43)=w8 at *;simp -implicitDefEqProofs only[go_sem,yJ];refine qQa pl17 ((sameFound w8 (l:=[(q,52)]) (m:=[(q,52)]) (b8.fr0 V).rd (fnR_one k8) (show 1<=2 ^ 40 by decide)).mono ?_);rintro _ w9 ⟨rfl,f9⟩;rw[decide_eq_true rfl];have e0:=f9.at (V.at k7 id) id;have e2:=f9.at (V.at d8 id) id;generalize cntP isLf (pgF im s.mark) s.mark=c1 at *;generalize cntP isBrn (pgF im s.mark) s.mark=c2 at *;generalize (chK (pgF im s.mark) s.mark).length=c3 at *;generalize cntP isLf (pgF (qQn im q A pat 32) s.mark) s.mark=c4 at *;generalize cntP isBrn (pgF (qQn im q A pat 32) s.mark) s.mark=c5 at *;generalize (chK (pgF (qQn im q A pat 32) s.mark) s.mark).length=c6 at *;have z6:rdO prog 3 w9 J.heap.size 6=some (vi c4):=rd1 agg3 e0 (by rw[<- I];rfl);have z7:rdO prog 3 w9 J.heap.size 7=some (vi c5):=rd1 agg3 e0 (by rw[<- I];rfl);have z8:rdO prog 3 w9 J.heap.size 8=some (vi c6):=rd1 agg3 e0 (by rw[<- I];rfl);have o6:rdO prog 3 w9 rb 6=some (vi c1):=rd1 agg3 e2 rfl;have o7:rdO prog 3 w9 rb 7=some (vi c2):=rd1 agg3 e2 rfl;have o8:rdO prog 3 w9 rb 8=some (vi c3):=rd1 agg3 e2 rfl;have w1:IntKind.i64.wrap ((c4:Int)+(c5:Int))=((c4+c5:Nat):Int):=qXi
  have w2:IntKind.i64.wrap (((c4+c5:Nat):Int)+(c6:Int))=((c4+c5+c6:Nat):Int):=qXi;have L:IntKind.i64.wrap ((c1:Int)+(c2:Int))=((c1+c2:Nat):Int):=qXi;have U:IntKind.i64.wrap (((c1+c2:Nat):Int)+(c3:Int))=((c1+c2+c3:Nat):Int):=qXi;have l8:IntKind.i64.wrap (((c1+c2+c3:Nat):Int) - 1)=((c4+c5+c6:Nat):Int):=by rw[<- h4];exact (qXr (b:=1) om om).trans (by congr 1)
  simp -implicitDefEqProofs only[go_sem,yJ,bSe,jY,a6,z6,z7,z8,o6,o7,o8,w1,w2,L,U,l8];exact (b7.trans V).trans f9
end A
end
end Go.V
