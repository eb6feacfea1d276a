/- Helpers. -/
import Derived.Test.YtppmpdjlmgfdkaaGreatDoorM23
import Derived.Test.YtppmpdjlmgfdkaaGreatDoorM16
import Derived.Test.YtppmpdjlmgfdkaaGreatDoorM24
set_option linter.all false
set_option maxRecDepth 100000
set_option maxHeartbeats 8000000
open Array renaming all_toList->kJ,replicate->xS
open List renaming replicate->zG,length_map->zE,countP_map->rJ,range->qI,perm_ext_iff_of_nodup->rK,take_of_length_le->zB
open Nat renaming reduceEqDiff->j7,zero_add->jV,reduceBEq->yX,mul_one->j8,le_refl->xC
open Go.Value renaming int->vU,cells->yU
namespace Go.V
open Go.Proofs.Tryz Go.V.Tryz
open Go.Proofs Sha
variable {im:Bs} {e:Int} {fs:List (Nat × Int)} {c k mn mr sb:Nat} {et kt t:TypeId} {iv vv:Value} {u w:World}
section
namespace A
open Aud
def isLf:Option Pg->Bool
 | some (.nd (.leaf _ _))=>true
 | _=>false
def isBrn:Option Pg->Bool
 | some (.nd (.br _ _ _ _ _ _))=>true
 | _=>false
def cntP (f:Option Pg->Bool)(pg:Nat->Option Pg)(k:Nat):Nat:=(qI k).countP fun p=>f (pg p)
theorem cntP_le (f:Option Pg->Bool)(pg:Nat->Option Pg)(k:Nat):cntP f pg k<=k:=Nat.le_trans List.countP_le_length sm
theorem cnt_keys {A:List Nat}(D:A.Nodup){q f:Nat->Bool}(h:∀ p,p ∈ A ↔ p<k/\q p=true)(E:∀ p,f p=true->q p=true):A.countP f=(qI k).countP f:=by
 have H:A.Perm ((qI k).filter q):=(rK D (List.nodup_range.filter _)).2 fun p=>by
  rw[h p,List.mem_filter,List.mem_range]
 rw[H.countP_eq,List.countP_filter]
 congr 1
 funext p
 cases B:f p with
 | false=>simp
 | true=>simp[E p B]
abbrev rpC (wd pgs mk A B lt D br rc:Nat)(E:Value):Array Value:=#[.int .i64 (wd:Nat),.int .i64 (pgs:Nat),.int .i64 (mk:Nat),.int .i64 (A:Nat),.int .i64 (B:Nat),.int .i64 (lt:Nat),.int .i64 (D:Nat),.int .i64 (br:Nat),.int .i64 (rc:Nat),E]
abbrev rp0:Array Value:=#[.int .i64 0,.int .i64 0,.int .i64 0,.int .i64 0,.int .i64 0,.int .i64 0,.int .i64 0,.int .i64 0,.int .i64 0,.slice none 0 0]
theorem bldRp0:bldO prog 25 []=some (.agg rp0):=by
 rw[qJp zero25 places25 (c:=rp0) x9];rfl
def rpPs:List (Nat × Nat):=[(0,1),(1,1),(2,1),(3,1),(4,1),(5,1),(6,1),(7,1),(8,1),(9,1)]
theorem rpPlaces:qXh prog 25=some rpPs:=x9
theorem bldRp (wd pgs mk A rc:Nat)(a:Option Addr)(n cap:Nat):bldO prog 25 [(0,.int .i64 (wd:Nat)),(1,.int .i64 (pgs:Nat)),(2,.int .i64 (mk:Nat)),(3,.int .i64 (A:Nat)),(8,.int .i64 (rc:Nat)),(9,.slice a n cap)]=some (.agg (rpC wd pgs mk A 0 0 0 0 rc (.slice a n cap))):=by
 rw[qJp zero25 rpPlaces (c:=rp0) x9];have s:∀ (i:Nat) (a r:List Value) (u v:Value) (rest:List (Nat × Value)),rpPs[i]?=some (i,1)->a.length=i->one v=true->Instr.fill (fun i=>rpPs[i]?) (a++u::r).toArray ((i,v)::rest)=Instr.fill (fun i=>rpPs[i]?) (a++v::r).toArray rest:=fun i a r u v rest D E H=>qJb D E H;have I:=s 0 [] [vU .i64 0,vU .i64 0,vU .i64 0,vU .i64 0,vU .i64 0,vU .i64 0,vU .i64 0,vU .i64 0,.slice none 0 0] (vU .i64 0) (.int .i64 (wd:Nat)) [(1,.int .i64 (pgs:Nat)),(2,.int .i64 (mk:Nat)),(3,.int .i64 (A:Nat)),(8,.int .i64 (rc:Nat)),(9,.slice a n cap)] rfl rfl rfl;have J:=s 1 [vU .i64 (wd:Nat)] [vU .i64 0,vU .i64 0,vU .i64 0,vU .i64 0,vU .i64 0,vU .i64 0,vU .i64 0,.slice none 0 0] (vU .i64 0) (.int .i64 (pgs:Nat)) [(2,.int .i64 (mk:Nat)),(3,.int .i64 (A:Nat)),(8,.int .i64 (rc:Nat)),(9,.slice a n cap)] rfl rfl rfl;have L:=s 2 [vU .i64 (wd:Nat),.int .i64 (pgs:Nat)] [vU .i64 0,vU .i64 0,vU .i64 0,vU .i64 0,vU .i64 0,vU .i64 0,.slice none 0 0] (vU .i64 0) (.int .i64 (mk:Nat)) [(3,.int .i64 (A:Nat)),(8,.int .i64 (rc:Nat)),(9,.slice a n cap)] rfl rfl rfl;have M:=s 3 [vU .i64 (wd:Nat),.int .i64 (pgs:Nat),.int .i64 (mk:Nat)] [vU .i64 0,vU .i64 0,vU .i64 0,vU .i64 0,vU .i64 0,.slice none 0 0] (vU .i64 0) (.int .i64 (A:Nat)) [(8,.int .i64 (rc:Nat)),(9,.slice a n cap)] rfl rfl rfl;have N:=s 8 [vU .i64 (wd:Nat),.int .i64 (pgs:Nat),.int .i64 (mk:Nat),.int .i64 (A:Nat),vU .i64 0,vU .i64 0,vU .i64 0,vU .i64 0] [.slice none 0 0] (vU .i64 0) (.int .i64 (rc:Nat)) [(9,.slice a n cap)] rfl rfl rfl;have B:=s 9 [vU .i64 (wd:Nat),.int .i64 (pgs:Nat),.int .i64 (mk:Nat),.int .i64 (A:Nat),vU .i64 0,vU .i64 0,vU .i64 0,vU .i64 0,.int .i64 (rc:Nat)] [] (.slice none 0 0) (.slice a n cap) [] rfl rfl rfl
 rw[qXq]at B;exact congrArg (Option.map Value.agg) (((((I.trans J).trans L).trans M).trans N).trans B)
theorem lookP_err (h:lookP im=.error e):(e != 0)=true:=by
 unfold lookP at h;split at h
 ·cases h;rfl
 ·split at h
  ·cases h;rfl
  ·split at h
   ·rename_i A;cases h;exact qWf A
   ·split at h
    ·cases h;rfl
    ·cases h
theorem lenMap (A:mapO prog t=some (kt,et)){ty:TypeId}{B:Nat}{D:Array MapEntry}(h:w.heap[B]?=some (.map D c)):(Builtin.len_ #[t] ty #[.map (some B)]).run prog w=.ok (goInt D.size) w:=by
 have E:prog.underlying t=some (.map kt et):=by
  unfold mapO at A;split at A
  ·rename_i k e H;cases A;exact H
  ·cases A
 simp[Builtin.len_,r_und E,getObj,Sem.run,h]
def CkQ (u:World)(im:Bs)(v:Value)(w:World):Prop:=No u w /\
 match lookP im with
 | .error e=>v=.tuple #[.agg rp0,.int .i64 e]
 | .ok (s,fs)=>∃ A,v=.tuple #[.agg (rpC s.width s.pages s.mark s.head (if isRc (pgF im s.mark s.head) then (rcAt (pgF im s.mark) s.head).first else 0) (if isRc (pgF im s.mark s.head) then (rcAt (pgF im s.mark) s.head).ver else 0) (cntP isLf (pgF im s.mark) s.mark) (cntP isBrn (pgF im s.mark) s.mark) (chK (pgF im s.mark) s.mark).length A),.int .i64 0]/\NwR u w 43 2 A (fnR fs)
theorem mapUnd (A:mapO prog t=some (kt,et)):prog.underlying t=some (.map kt et):=by
 unfold mapO at A;split at A
 ·rename_i k e B;cases A;exact B
 ·cases A
def lfE (e:MapEntry):Bool:=match e.val with
 | .agg c=>(match c[0]? with | some (vU _ 1)=>true | _=>false)
 | _=>false
theorem lfE_nd {e:MapEntry}{n:Nd}(h:e.val=.agg (ndA n vv).toArray):lfE e=isLf (some (.nd n)):=by
 unfold lfE;rw[h]
 cases n <;> rfl
theorem ents_nd {s:Sup}{cv vv fv bv:Value}{J rl:List (Nat × Value)}{pg:Nat->Option Pg}(h:SgM u w sb iv im s mn mr cv vv fv bv J rl pg k fs){E:Array MapEntry}(he:w.heap[mn]?=some (.map E c)) :
  (∀ e ∈ E.toList,∃ p n vv,pg p=some (.nd n)/\e.val=.agg (ndA n vv).toArray/\one vv=true)/\E.toList.countP lfE=cntP isLf pg k/\E.toList.countP (fun e=>!lfE e)=cntP isBrn pg k/\(∀ e ∈ E.toList,e.born<c)/\(E.toList.map (·.born)).Nodup:=by
 obtain⟨a0,c',Z,h2,h3,h4,h5,h6⟩:=id h.nds;rw[he]at Z;cases Z
 have key:∀ q ∈ J,∃ n vv,q.1<k/\pg q.1=some (.nd n)/\q.2=.agg (ndA n vv).toArray/\one vv=true:=fun q B=>by
  have T:=(findM_mem h4).2 (show (q.1,q.2) ∈ J from B);have I:=h.na q.1;split at I
  ·rename_i n e
   obtain⟨x,N,vv,H,V,_,_⟩:=I;rw[T]at N;cases N
   by_cases L:q.1<k
   ·rw[if_pos L]at e;exact⟨n,vv,L,e,H,V⟩
   ·rw[if_neg L]at e;cases e
  ·rw[T]at I;cases I
 have O:∀ e ∈ E.toList,∃ q ∈ J,e.val=q.2:=fun e D=>by
  have:=List.mem_map_of_mem (f:=fun e:MapEntry=>(e.key,e.val)) D;rw[h2]at this;obtain⟨q,B,e'⟩:=List.mem_map.1 this;exact⟨q,B,(congrArg Prod.snd e').symm⟩
 have W:∀ p,p ∈ J.map (·.1) ↔ p<k/\(isLf (pg p) || isBrn (pg p))=true:=fun p=>by
  constructor
  ·intro A
   obtain⟨q,B,rfl⟩:=List.mem_map.1 A;obtain⟨n,vv,L,e,_⟩:=key q B;refine⟨L,?_⟩;rw[e]
   cases n <;> rfl
  ·rintro⟨L,A⟩
   refine Classical.byContradiction fun hc=>?_;have T:=findM_none.2 hc;have I:=h.na p;rw[if_pos L]at I
   cases U:pg p with
   | none=>rw[U]at A;cases A
   | some g =>
    rw[U]at I A
    cases g with
    | rc r=>cases A
    | nd n =>
     obtain⟨x,N,_⟩:=I;rw[T]at N;cases N
 have R:∀ (f:MapEntry->Bool) (g:Option Pg->Bool),(∀ e n vv,e.val=.agg (ndA n vv).toArray->f e=g (some (.nd n)))->(∀ p,g (pg p)=true->(isLf (pg p) || isBrn (pg p))=true)->E.toList.countP f=cntP g pg k:=fun f g M U=>by
  have Y:E.toList.countP f=(E.toList.map (fun e=>(e.key,e.val))).countP fun x=>f { key:=x.1,val:=x.2,born:=0 }:=by
   rw[rJ];refine List.countP_congr fun e D=>?_;obtain⟨q,B,ev⟩:=O e D;obtain⟨n,vv,_,_,H,_⟩:=key q B;show f e=true ↔ f { key:=e.key,val:=e.val,born:=0 }=true;rw[M e n vv (ev.trans H),M { key:=e.key,val:=e.val,born:=0 } n vv (ev.trans H)]
  rw[Y,h2,rJ]
  have H:J.countP ((fun x:Value × Value=>f { key:=x.1,val:=x.2,born:=0 }) ∘ fun p=>(encN p.1,p.2))=(J.map (·.1)).countP fun p=>g (pg p):=by
   rw[rJ];refine List.countP_congr fun q B=>?_;obtain⟨n,vv,_,e,H,_⟩:=key q B;show f { key:=encN q.1,val:=q.2,born:=0 }=true ↔ g (pg q.1)=true;rw[M { key:=encN q.1,val:=q.2,born:=0 } n vv H,e]
  rw[H];exact cnt_keys h4 W fun p A=>U p A
 refine⟨fun e D=>?_,R lfE isLf (fun e n vv h=>lfE_nd h) (fun p A=>by rw[A];rfl),R (fun e=>!lfE e) isBrn (fun e n vv h=>by rw[lfE_nd h];cases n <;> rfl) (fun p A=>by rw[A,Bool.or_true]),h5,h6⟩;obtain⟨q,B,Y⟩:=O e D;obtain⟨n,vv,_,A,H,V⟩:=key q B;exact⟨q.1,n,vv,A,Y.trans H,V⟩
theorem ents_rc {s:Sup}{cv vv L M:Value}{N rl:List (Nat × Value)}{pg:Nat->Option Pg}(h:SgM u w sb iv im s mn mr cv vv L M N rl pg k fs){H:Array MapEntry}(O:w.heap[mr]?=some (.map H c)):H.size=(chK pg k).length:=by
 obtain⟨R,c',I,T,Y,U,Z,h6⟩:=id h.rcs;rw[O]at I;cases I
 have B:H.size=(rl.map (·.1)).length:=by
  have:=congrArg List.length T;rw[zE,zE]at this;rw[zE,<- this,Array.length_toList]
 rw[B];refine List.Perm.length_eq ((rK U (show (chK pg k).Nodup from by unfold chK;exact List.nodup_range.filter _)).2 fun p=>?_);unfold chK;rw[List.mem_filter,List.mem_range];have D:=h.ra p;constructor
 ·intro A
  have V:findM rl p≠none:=fun e=>findM_none.1 e A;split at D
  ·rename_i r e
   by_cases E:p<k
   ·rw[if_pos E]at e;exact⟨E,by rw[e];rfl⟩
   ·rw[if_neg E]at e;cases e
  ·exact absurd D V
 ·rintro⟨E,A⟩
  refine Classical.byContradiction fun W=>?_;rw[if_pos E,findM_none.2 W]at D
  cases J:pg p with
  | none=>rw[J]at A;cases A
  | some g =>
   rw[J]at D A
   cases g with
   | nd n=>cases A
   | rc r=>cases D
def ckI (D:World)(E:Nat)(sb b r mn:Nat)(A:Array MapEntry)(c:Nat)(H I:Nat)(C:Nat->Nat->Array Value)(n:Nat)(vs:List Value)(w:World):Prop :=
 ∃ (seen:Array Nat) (B br:Nat),vs=[pt E 0,pt sb 0,pt b 0,pt r 0]/\It w r mn A c seen/\n=(leftOf A seen).toList.length/\B+(leftOf A seen).toList.countP lfE=H/\br+(leftOf A seen).toList.countP (fun e=>!lfE e)=I/\w.heap[b]?=some (.cells (C B br) 25 (0,0))/\No D w
theorem rec_is {s:Sup}{cv vv I J:Value}{L rl:List (Nat × Value)}{pg:Nat->Option Pg}(h:SgM u w sb iv im s mn mr cv vv I J L rl pg s.mark fs)(M:LkOk u sb iv s pg)(p:Nat):lookO prog 69 w (.map (some mr)) (.int .i64 (p:Nat))=some (.agg (rcC (rcAt pg p)).toArray,isRc (pg p)):=by
 have A:=h.rcs.look keyN (k:=p) trivial map69 (z:=.agg (rcC rc00).toArray) x9;have B:=h.ra p
 have N:(if p<s.mark then pg p else none)=pg p:=by
  by_cases E:p<s.mark
  ·rw[if_pos E]
  ·rw[if_neg E,M.hpg p x8]
 rw[N]at B;unfold rcAt;split at B
 ·rename_i r e;rw[B]at A;rw[e];exact A
 ·rename_i e
  rw[B]at A;split
  ·rename_i r H;exact absurd H (e r)
  ·rename_i H
   have:isRc (pg p)=false:=by
    unfold isRc;split
    ·rename_i r D;exact absurd D (e r)
    ·rfl
   rw[this];exact A
def Ck4 (A B:World)(sb:Nat)(rc:Value)(D E H:Value)(w:World):Prop :=
 D=pt A.heap.size 0/\E=pt sb 0/\∃ b,H=pt b 0/\B.heap.size<=b/\No A w/\w.heap[A.heap.size]?=some (.cells rp0 25 (0,0))/\w.heap[b]?=some (.cells rc.cells 25 (0,0))
theorem check (w:World)(ht:Tabs w)(hi:By w iv im)(hl:im.length<=2 ^ 47) :
  Fn prog 8 #[iv] w fun v w'=>CkQ w im v w':=by
 refine go8 sm ?_;obtain⟨W,hW,f1,k1,s1⟩:=qQl w rp0 25;have c5:=f1;have zz:xS 9 (vU .i64 0)++#[Value.slice none 0 0]=rp0:=x9
 simp only[go_sem,j7,yU,Tryz.f8,zz,hW];refine qQa pl23 ((look W (ht.no f1) (hi.fr0 f1) hl).mono ?_);rintro v N V;unfold LkQ at V
 cases J:lookP im with
 | error e =>
  rw[J]at V;obtain⟨rfl,f2⟩:=V;have ne:=lookP_err J;have k2:=f2.at k1 id;have q2:wrO prog 25 N w.heap.size 0 (.agg rp0)=some (put N w.heap.size (.cells rp0 25 (0,0))):=qQo sz25 k2 rfl (by rw[<- kJ];rfl);have k3:=qQd (o:=.cells rp0 25 (0,0)) k2;have ld:=qQm (P:=prog) (t:=25) agg25 sz25 k3;simp only[go_sem,j7,ne,bldRp0,q2,ld];unfold CkQ;rw[J];exact⟨(f1.trans f2).put (b:=w.heap.size) _ fun h=>by omega,rfl⟩
 | ok y =>
  obtain⟨s,fs⟩:=y;rw[J]at V;obtain⟨sb,mn,mr,cv,vv,nl,rl,rfl,ho,hE⟩:=V;obtain⟨⟨f2,fv,bv,O,hb⟩,_⟩:=hE;have k2:=f2.at k1 id;have g6:((0:Int) != 0)=false:=rfl;simp only[go_sem,j7,bNe];obtain⟨H,cR,R,g7,g8,g9,h0,h3⟩:=id O.rcs;obtain⟨E,A,c6,d7⟩:=O.fnd.rd.slice;refine qXg (Q:=fun e ev w5=>e=.normal/\Ck4 w N sb (.agg (rpC s.width s.pages s.mark s.head 0 0 0 0 H.size (.slice E (fnR fs).length A))) (ev 2) (ev 4) (ev 6) w5/\No N w5) _ (fun e ev w5=>?_) ?_
  ·rintro⟨rfl,⟨e2,e4,B,e6,h4,f5,k5,k6⟩,b3⟩
   rw[thenQ_normal];have b4:=O.fr0 b3;obtain⟨c7,cN,m1,_⟩:=id b4.nds;obtain⟨d8,d9,e0,e1,e3⟩:=ents_nd b4 m1;have r6:rdO prog 68 w5 sb 6=some (.map (some mn)):=rd1 agg68 b4.row rfl;simp only[go_sem,jV,e4,r6];obtain⟨q1,e5,f1⟩:=range_it (P:=prog) (mapUnd map68) m1 e1 e3;refine qQj ⟨_,_,q1,?_⟩;simp only[go_sem];refine loopD [2,4,6,54] (ckI N w.heap.size sb B w5.heap.size mn c7 cN (cntP isLf (pgF im s.mark) s.mark) (cntP isBrn (pgF im s.mark) s.mark) fun Y br=>rpC s.width s.pages s.mark s.head 0 0 Y br H.size (.slice E (fnR fs).length A)) c7.toList.length ⟨#[],0,0,?_,e5,by rw[left_all],by rw[left_all,jV];exact d9,by rw[left_all,jV];exact e0,f1.at k6 id,b3.trans f1⟩ ?_
   ·show [_,_,_,_]=_
    simp only[go_sem,j7,e2,e4,e6]
   rintro _ vs w6 g ⟨seen,Y,br,rfl,b5,rfl,h1,h2,kb,T⟩;simp only[go_sem,j7];refine qQj (It.next b5 ?_ ?_)
   ·intro a9
    simp only[go_sem];have e7:Y=cntP isLf (pgF im s.mark) s.mark:=by rw[a9]at h1;exact h1
    have Z:br=cntP isBrn (pgF im s.mark) s.mark:=by rw[a9]at h2;exact h2
    subst e7;subst Z;have a3:=O.fr0 T;have c8:H.size=(chK (pgF im s.mark) s.mark).length:=ents_rc O R;rw[c8]at kb;clear b5 h1 h2;refine qXj (fun j=>j == 13) (.row [0,1,2,4,5,6,7,3,8,9,10,11,12,13,14,15]) rfl x9 x9 ?_;have a3:=a3.fr0 ((Fr.refl _ _).drew);have kb:w6.drew.heap[B]?=_:=kb;have T:=T.drew;generalize w6.drew=L at *;have r7:rdO prog 69 L sb 7=some (.map (some mr)):=rd1 agg69 a3.row rfl;have r4:rdO prog 3 L sb 4=some (.int .i64 (s.head:Nat)):=rd1 agg3 a3.row rfl;have lk:=rec_is a3 ho s.head;obtain⟨W8,b7,f8,k8,s8⟩:=qQl L (rcC rc00).toArray 80;generalize c9:rcAt (pgF im s.mark) s.head=D at *;have rl:(rcC D).length=38:=qXc (by rw[<- c9];exact rcAt_len ho _);have q8:wrO prog 80 W8 L.heap.size 0 (.agg (rcC D).toArray)=some (put W8 L.heap.size (.cells (rcC D).toArray 80 (0,0))):=qQo (by simp[rl];exact sz80) k8 (by simp[rl,qXc (r:=rc00) z32l]) (by simpa using rcC_one _);have k9:=qQd (o:=.cells (rcC D).toArray 80 (0,0)) k8;have f9:No L (put W8 L.heap.size (.cells (rcC D).toArray 80 (0,0))):=f8.put (b:=L.heap.size) _ fun h=>by omega
    have hz:=rcZero;have e8:=f8.ext;simp only[go_sem,j7,yX,Nat.reduceAdd,yU,bSe,jV,qQk,OT.row,r7,r4,lk,hz,b7,q8,e8,implies_true];generalize put W8 L.heap.size (.cells (rcC D).toArray 80 (0,0))=M at *;have I:=f9.at kb id;have h5:=f9.at ((show No N L from T).at k2 id) id;have a6:=T.trans f9;have hne:B≠w.heap.size:=by have:=qQi k2;omega
    have tail:∀ (ft lt:Nat) (W:World), No N W->W.heap[B]?=some (.cells (rpC s.width s.pages s.mark s.head ft lt (cntP isLf (pgF im s.mark) s.mark) (cntP isBrn (pgF im s.mark) s.mark) (chK (pgF im s.mark) s.mark).length (.slice E (fnR fs).length A)) 25 (0, 0)) ->
      ft=(if isRc (pgF im s.mark s.head) then D.first else 0)->lt=(if isRc (pgF im s.mark s.head) then D.ver else 0) ->
      rdO prog 25 W B 0=some (.agg (rpC s.width s.pages s.mark s.head ft lt (cntP isLf (pgF im s.mark) s.mark) (cntP isBrn (pgF im s.mark) s.mark) (chK (pgF im s.mark) s.mark).length (.slice E (fnR fs).length A))) /\
      ∃ W',wrO prog 25 W w.heap.size 0 (.agg (rpC s.width s.pages s.mark s.head ft lt (cntP isLf (pgF im s.mark) s.mark) (cntP isBrn (pgF im s.mark) s.mark) (chK (pgF im s.mark) s.mark).length (.slice E (fnR fs).length A)))=some W' /\
       rdO prog 25 W' w.heap.size 0=some (.agg (rpC s.width s.pages s.mark s.head ft lt (cntP isLf (pgF im s.mark) s.mark) (cntP isBrn (pgF im s.mark) s.mark) (chK (pgF im s.mark) s.mark).length (.slice E (fnR fs).length A))) /\
       CkQ w im (.tuple #[.agg (rpC s.width s.pages s.mark s.head ft lt (cntP isLf (pgF im s.mark) s.mark) (cntP isBrn (pgF im s.mark) s.mark) (chK (pgF im s.mark) s.mark).length (.slice E (fnR fs).length A)),.int .i64 0]) W':=fun ft lt W f k e9 f6=>by
     have kz:=f.at k2 id;have k':=qQd (o:=.cells (rpC s.width s.pages s.mark s.head ft lt (cntP isLf (pgF im s.mark) s.mark) (cntP isBrn (pgF im s.mark) s.mark) (chK (pgF im s.mark) s.mark).length (.slice E (fnR fs).length A)) 25 (0,0)) kz;have fW:Fr (fun b=>b=w.heap.size) N (put W w.heap.size (.cells (rpC s.width s.pages s.mark s.head ft lt (cntP isLf (pgF im s.mark) s.mark) (cntP isBrn (pgF im s.mark) s.mark) (chK (pgF im s.mark) s.mark).length (.slice E (fnR fs).length A)) 25 (0,0))):=(f.mono fun _ _ h=>h.elim).put (b:=w.heap.size) _ fun _=>rfl;refine⟨qQm (P:=prog) (t:=25) agg25 sz25 k,_,qQo sz25 kz rfl (by rw[<- kJ];rfl),qQm (P:=prog) (t:=25) agg25 sz25 k',(c5.trans f2).trans' fW (fun b hb e=>by subst e;exact Nat.lt_irrefl _ hb),?_⟩;rw[J];refine⟨.slice E (fnR fs).length A,?_,?_⟩
     ·show Value.tuple _=_
      rw[c9,e9,f6]
     ·have hn:=O.fnd
      rw[c6]at hn;refine (hn.back c5.size).fr fW fun b hb e=>?_;have:=(hn.lt hb).1;subst e;have:=s1;omega
    by_cases hrc:isRc (pgF im s.mark s.head)=true
    ·rw[hrc]
     simp only[go_sem];refine qXj (fun _=>false) (.one 0 (.one 2 (.one 1 (.one 4 (.two 3 (.row [5,6,7]) 5 (.row [3,6,7])))))) rfl x9 x9 ?_;have I:M.drew.heap[B]?=_:=I;have k9:M.drew.heap[L.heap.size]?=_:=k9;have a6:=a6.drew;have g0:L.heap.size≠B:=by have:=qQi kb;omega
     generalize M.drew=M at *;have a0:rdO prog 3 M L.heap.size 0=some (.int .i64 (D.ver:Nat)):=rd1 agg3 k9 rfl;have a1:rdO prog 3 M L.heap.size 1=some (.int .i64 (D.first:Nat)):=rd1 agg3 k9 rfl;have q4:wrO prog 3 M B 4 (.int .i64 (D.first:Nat))=some (put M B (.cells (rpC s.width s.pages s.mark s.head D.first 0 (cntP isLf (pgF im s.mark) s.mark) (cntP isBrn (pgF im s.mark) s.mark) (chK (pgF im s.mark) s.mark).length (.slice E (fnR fs).length A)) 25 (0,0))):=wr1 sz3 rfl I (show 4<10 by decide);have kc:=qQd (o:=.cells (rpC s.width s.pages s.mark s.head D.first 0 (cntP isLf (pgF im s.mark) s.mark) (cntP isBrn (pgF im s.mark) s.mark) (chK (pgF im s.mark) s.mark).length (.slice E (fnR fs).length A)) 25 (0,0)) I;have kd:=qQh (b:=B) (o:=.cells (rpC s.width s.pages s.mark s.head D.first 0 (cntP isLf (pgF im s.mark) s.mark) (cntP isBrn (pgF im s.mark) s.mark) (chK (pgF im s.mark) s.mark).length (.slice E (fnR fs).length A)) 25 (0,0)) k9 g0.symm;have n3:=a6.put (b:=B) (.cells (rpC s.width s.pages s.mark s.head D.first 0 (cntP isLf (pgF im s.mark) s.mark) (cntP isBrn (pgF im s.mark) s.mark) (chK (pgF im s.mark) s.mark).length (.slice E (fnR fs).length A)) 25 (0,0)) fun h=>by omega
     generalize put M B (.cells (rpC s.width s.pages s.mark s.head D.first 0 (cntP isLf (pgF im s.mark) s.mark) (cntP isBrn (pgF im s.mark) s.mark) (chK (pgF im s.mark) s.mark).length (.slice E (fnR fs).length A)) 25 (0,0))=WA at *;have g1:rdO prog 3 WA L.heap.size 0=some (.int .i64 (D.ver:Nat)):=rd1 agg3 kd rfl;have q5:wrO prog 3 WA B 5 (.int .i64 (D.ver:Nat))=some (put WA B (.cells (rpC s.width s.pages s.mark s.head D.first D.ver (cntP isLf (pgF im s.mark) s.mark) (cntP isBrn (pgF im s.mark) s.mark) (chK (pgF im s.mark) s.mark).length (.slice E (fnR fs).length A)) 25 (0,0))):=wr1 sz3 rfl kc (show 5<10 by decide);have ke:=qQd (o:=.cells (rpC s.width s.pages s.mark s.head D.first D.ver (cntP isLf (pgF im s.mark) s.mark) (cntP isBrn (pgF im s.mark) s.mark) (chK (pgF im s.mark) s.mark).length (.slice E (fnR fs).length A)) 25 (0,0)) kc;have n4:=n3.put (b:=B) (.cells (rpC s.width s.pages s.mark s.head D.first D.ver (cntP isLf (pgF im s.mark) s.mark) (cntP isBrn (pgF im s.mark) s.mark) (chK (pgF im s.mark) s.mark).length (.slice E (fnR fs).length A)) 25 (0,0)) fun h=>by omega
     generalize put WA B (.cells (rpC s.width s.pages s.mark s.head D.first D.ver (cntP isLf (pgF im s.mark) s.mark) (cntP isBrn (pgF im s.mark) s.mark) (chK (pgF im s.mark) s.mark).length (.slice E (fnR fs).length A)) 25 (0,0))=WB at *;obtain⟨ra,Wt,b8,rb,V⟩:=tail D.first D.ver WB n4 ke (by rw[hrc];rfl) (by rw[hrc];rfl);simp only[go_sem,j7,jV,OT.row,a0,a1,g1,q4,q5,ra,b8,rb,implies_true,true_and]
     first | exact V | exact⟨V,V⟩
    ·rw[Bool.not_eq_true]at hrc
     obtain⟨ra,Wt,b8,rb,V⟩:=tail 0 0 M a6 I (by rw[hrc];rfl) (by rw[hrc];rfl);rw[hrc];simp only[go_sem,j7,ra,b8,rb];exact V
   ·intro e L he b0 f7
    simp only[go_sem,j7];refine qQj ⟨_,_,b0.entry (left_mem he),?_⟩;obtain⟨p,nd,a4,g2,d0,ov⟩:=d8 e (left_mem he);have a5:=(ho.hnd p nd g2).2;have g3:=lfE_nd d0;obtain⟨W8,b7,f8,k8,s8⟩:=qQl L nd0.toArray 78;have zz:#[.int .i64 0,.int .i64 0,.int .i64 0,.int .i64 0,.int .i64 0]++bl (zG 96 0)++#[.slice none 0 0]=nd0.toArray:=qKk;have q8:wrO prog 78 W8 L.heap.size 0 (.agg (ndA nd a4).toArray)=some (put W8 L.heap.size (.cells (ndA nd a4).toArray 78 (0,0))):=qQo (by simp[qJm a5];exact sz78) k8 (by simp[qJm a5,qQu z32l z32l z32l]) (by simpa using ndA_one ov);have k9:=qQd (o:=.cells (ndA nd a4).toArray 78 (0,0)) k8;have f9:No L (put W8 L.heap.size (.cells (ndA nd a4).toArray 78 (0,0))):=f8.put (b:=L.heap.size) _ fun h=>by omega
    rw[d0];simp only[go_sem,j7,yU,jV,qQk,zz,b7,q8];generalize put W8 L.heap.size (.cells (ndA nd a4).toArray 78 (0,0))=M at *;have hmn:mn≠B:=fun e=>by subst e;rw[k6]at m1;cases m1
    have Z:B≠w5.heap.size:=by have:=qQi k6;omega
    have g4:=f7.at kb Z;have I:=f9.at g4 id;have b1:=b0.fr f9 id id;have d1:No N M:=(T.trans' f7 fun b hb e=>by subst e;have:=b3.size;omega).trans f9
    have hp:=(b5.took he)
    have a7:=hp.countP_eq lfE;have a8:=hp.countP_eq fun e=>!lfE e;have b9:=hp.length_eq;rw[List.countP_cons]at a7 a8;rw[List.length_cons]at b9;rw[g3]at a7 a8;have h6:Y<=4096:=by have:=cntP_le isLf (pgF im s.mark) s.mark;have:=ho.hm;omega
    have h7:br<=4096:=by have:=cntP_le isBrn (pgF im s.mark) s.mark;have:=ho.hm;omega
    cases nd with
    | leaf kk vl =>
     have d2:((1:Int) == 1)=true:=rfl;have c0:rdO prog 3 M B 6=some (.int .i64 (Y:Nat)):=rd1 agg3 I rfl;have c3:=iSu (i:=Y);have c4:wrO prog 3 M B 6 (.int .i64 ((Y+1:Nat):Int))=some (put M B (.cells (rpC s.width s.pages s.mark s.head 0 0 (Y+1) br H.size (.slice E (fnR fs).length A)) 25 (0,0))):=wr1 sz3 rfl I (show 6<10 by decide);simp only[go_sem,j7,bSe,jV,(rdLf a5.1 k9).1,c0,c3,c4];refine⟨_,?_,seen.push e.born,Y+1,br,rfl,b1.fr ((Fr.refl (fun b=>b=B) _).put (b:=B) _ fun _=>rfl) ?_ ?_,rfl,?_,?_,qQd I,d1.put (b:=B) _ fun h=>by omega⟩
     ·omega
     ·exact fun e=>Z e.symm
     ·exact hmn
     ·rw[if_pos (by simp[isLf])]at a7;omega
     ·rw[if_neg (by simp[isLf])]at a8;omega
    | br lp rp lc rc ls rs =>
     have d2:((2:Int) == 1)=false:=rfl;have c0:rdO prog 3 M B 7=some (.int .i64 (br:Nat)):=rd1 agg3 I rfl;have c3:=iSu (i:=br);have c4:wrO prog 3 M B 7 (.int .i64 ((br+1:Nat):Int))=some (put M B (.cells (rpC s.width s.pages s.mark s.head 0 0 Y (br+1) H.size (.slice E (fnR fs).length A)) 25 (0,0))):=wr1 sz3 rfl I (show 7<10 by decide);simp only[go_sem,j7,jV,(rdBr a5.2.1 a5.2.2 k9).1,d2,c0,c3,c4];refine⟨_,?_,seen.push e.born,Y,br+1,rfl,b1.fr ((Fr.refl (fun b=>b=B) _).put (b:=B) _ fun _=>rfl) ?_ ?_,rfl,?_,?_,qQd I,d1.put (b:=B) _ fun h=>by omega⟩
     ·omega
     ·exact fun e=>Z e.symm
     ·exact hmn
     ·rw[if_neg (by simp[isLf])]at a7;omega
     ·rw[if_pos (by simp[isLf])]at a8;omega
  refine qXj (fun j=>j == 24 || j == 30) (.one 0 (.one 1 (.one 2 (.one 3 (.one 5 (.one 6 (.one 7 (.one 8 (.one 10 (.one 11 (.one 12 (.one 13 (.one 15 (.one 16 (.one 17 (.one 18 (.one 20 (.one 21 (.one 22 (.one 25 (.one 26 (.one 27 (.one 4 (.one 9 (.one 14 (.one 19 (.one 23 (.one 28 (.two 24 (.row [29,30,31]) 30 (.row [24,29,31])))))))))))))))))))))))))))))) rfl x9 x9 ?_;have R:N.drew.heap[mr]?=_:=R;have f0:No N N.drew:=(Fr.refl _ _).drew;have d3:=f0.size;have O:=O.fr0 (Fr.refl _ _).drew;have f3:=(f1.trans f2).drew;have k3:N.drew.heap[w.heap.size]?=_:=k2;have hu:No W N.drew:=f2.drew;generalize N.drew=U at *;have r1:rdO prog 3 U sb 1=some (.int .i64 (s.width:Nat)):=rd1 agg3 O.row rfl;have r3:rdO prog 3 U sb 3=some (.int .i64 (s.mark:Nat)):=rd1 agg3 O.row rfl;have r4:rdO prog 3 U sb 4=some (.int .i64 (s.head:Nat)):=rd1 agg3 O.row rfl;have r5:rdO prog 3 U sb 5=some (.int .i64 (s.pages:Nat)):=rd1 agg3 O.row rfl;have r7:rdO prog 69 U sb 7=some (.map (some mr)):=rd1 agg69 O.row rfl;have g5:rdO prog 23 U sb 10=some (.slice E (fnR fs).length A):=by rw[<- c6];exact rd1 agg23 O.row rfl
  have b9:=lenMap map69 (ty:=3) R;obtain⟨W4,d4,f4,k4,s4⟩:=qQl U rp0 25;have zz:xS 9 (vU .i64 0)++#[Value.slice none 0 0]=rp0:=x9
  have d5:=bldRp s.width s.pages s.mark s.head H.size E (fnR fs).length A;have q4:wrO prog 25 W4 U.heap.size 0 (.agg (rpC s.width s.pages s.mark s.head 0 0 0 0 H.size (.slice E (fnR fs).length A)))=some (put W4 U.heap.size (.cells (rpC s.width s.pages s.mark s.head 0 0 0 0 H.size (.slice E (fnR fs).length A)) 25 (0,0))):=qQo sz25 k4 rfl (by rw[<- kJ];rfl);have fe:=f4.ext;simp only[go_sem,j7,yX,Nat.reduceAdd,yU,bSe,jV,Nat.add_zero,OT.row,r1,r3,r4,r5,r7,g5];have gi:goInt H.size=.int .i64 (H.size:Nat):=rfl;have d6:=lenMap map69 (ty:=3) ((f4.blk mr (qQi R) id).trans R);have kf:=qQd (o:=.cells (rpC s.width s.pages s.mark s.head 0 0 0 0 H.size (.slice E (fnR fs).length A)) 25 (0,0)) k4;have ff:=f4.put (b:=U.heap.size) (.cells (rpC s.width s.pages s.mark s.head 0 0 0 0 H.size (.slice E (fnR fs).length A)) 25 (0,0)) fun h=>by omega
  have kg:=ff.at k3 id;refine⟨?_,?_⟩
  ·refine qXf ⟨_,_,b9,?_⟩
   refine⟨fun _=>(Fr.refl (fun _=>False) _).ext,?_⟩;rw[gi];simp only[go_sem,j7,yX,yU,bSe,d5,zz,d4,q4,fe,implies_true];exact⟨⟨rfl,rfl,U.heap.size,rfl,d3,f3.trans ff,kg,kf⟩,f0.trans ff⟩
  ·simp only[go_sem,zz,d4]
   refine qXf ⟨_,_,d6,?_⟩;refine⟨fun _=>(Fr.refl (fun _=>False) _).ext,?_⟩;rw[gi];simp only[go_sem,j7,yX,d5,q4];exact⟨⟨rfl,rfl,U.heap.size,rfl,d3,f3.trans ff,kg,kf⟩,f0.trans ff⟩
end A
end
section
namespace A
open Aud
def roC (im:Bs)(k:Nat):Bs:=im++(zG k 165++zG (80 - k) 0)
def roI (A:World)(b:Nat)(im:Bs)(n:Nat)(vs:List Value)(w:World):Prop :=
 ∃ k:Nat,vs=[.slice (some ⟨b,0,none⟩) (im.length+80) (im.length+80),.int .i64 ((im.length+k:Nat):Int)]/\k<=80/\n=80 - k/\w.heap[b]?=some (.cells ((roC im k).map u8).toArray 5 (0,0))/\No A w
theorem roomy (w:World)(hi:By w iv im)(hl:im.length<=2 ^ 47):Fn prog 10 #[iv] w fun v w'=>∃ b,v=.slice (some ⟨b,0,none⟩) (im.length+80) (im.length+80)/\By w' v (im++zG 80 165)/\No w w'/\w.heap.size<=b:=by
 refine go10 sm ?_;obtain⟨ia,ic,rfl,T⟩:=hi.slice;have c1:IntKind.i64.wrap ((im.length:Int)+80)=((im.length+80:Nat):Int):=qXa (b:=80);have B:=run_mk (P:=prog) (t:=22) (by':=1) slc22 sz5 by5 zero5 (l:=im.length+80) (c:=im.length+80) (xC _) x8 x8 .i64 .i64 w;have E:madeCells (vU .u8 0).cells ((im.length+80)*1)=bl (zG (im.length+80) 0):=by rw[<- qQk,j8];exact madeCells_one _ _
 rw[E]at B;have L:No w (w.alloc (.cells (bl (zG (im.length+80) 0)) 5)):=(Fr.refl _ _).alloc _;have M:(w.alloc (.cells (bl (zG (im.length+80) 0)) 5)).heap[w.heap.size]?=some (.cells (bl (zG (im.length+80) 0)) 5 (0,0)):=qQb _ _;simp -implicitDefEqProofs only[go_sem,j7,Tryz.f10,c1];refine qQj ⟨_,_,B,?_⟩;generalize w.alloc (.cells (bl (zG (im.length+80) 0)) 5)=N at *;have A:=run_copy (P:=prog) (ts:=#[22,22]) rfl slc22 sz5 (b:=w.heap.size) (o:=0) (dn:=im.length+80) (dc:=im.length+80) M (hi.fr0 L) (qXy im) (by rw[Nat.min_eq_left x8,qXn,lRe];omega);rw[Nat.min_eq_left x8,j8]at A
 have H:qZa ((im.map u8).take im.length) 0 (bl (zG (im.length+80) 0))=((roC im 0).map u8).toArray:=by
  have:=qVr (a:=[]) (m:=(zG im.length (0:Byte)).map u8) (r:=(zG 80 (0:Byte)).map u8) (vs:=im.map u8) sm;rw[zB sm]
  have e:bl (zG (im.length+80) 0)=([]++(zG im.length (0:Byte)).map u8++(zG 80 (0:Byte)).map u8).toArray:=by
   rw[List.nil_append,<- List.map_append,List.replicate_append_replicate]
  rw[e];refine this.trans ?_;simp[roC]
 rw[H]at A;simp -implicitDefEqProofs only[go_sem,j7];refine qQj ⟨_,_,A,?_⟩;have U:=qQd (o:=.cells ((roC im 0).map u8).toArray 5 (0,0)) M;have V:No w (put N w.heap.size (.cells ((roC im 0).map u8).toArray 5 (0,0))):=L.put (b:=w.heap.size) _ fun h=>by omega
 generalize put N w.heap.size (.cells ((roC im 0).map u8).toArray 5 (0,0))=w2 at *;simp -implicitDefEqProofs only[go_sem,j7];refine loopD [3,4] (roI w w.heap.size im) 80 ⟨0,rfl,j0,rfl,U,V⟩ ?_;rintro _ vs w3 g ⟨k,rfl,hk,rfl,D,O⟩;have I:=natlt (im.length+k) (im.length+80)
 by_cases W:k<80
 ·rw[decide_eq_true (show im.length+k<im.length+80 by omega)]at I
  have Y:(0:Int)<=((im.length+k:Nat):Int)/\((im.length+k:Nat):Int)<((im.length+80:Nat):Int):=x8
  have c2:IntKind.i64.wrap (((im.length+k:Nat):Int)+1)=((im.length+(k+1):Nat):Int):=qXa (b:=1)
  have J:(roC im k).map u8=(im.map u8++(zG k (165:Byte)).map u8)++vU .u8 0::(zG (80 - (k+1)) (0:Byte)).map u8:=by
   rw[roC,show 80 - k=(80 - (k+1))+1 by omega,List.replicate_succ];simp
  have Z:(roC im (k+1)).map u8=(im.map u8++(zG k (165:Byte)).map u8)++vU .u8 165::(zG (80 - (k+1)) (0:Byte)).map u8:=by
   rw[roC,List.replicate_succ'];simp
  rw[J]at D;have R:=wr_one (P:=prog) (t:=5) (v:=.int .u8 165) sz5 rfl D (o:=im.length+k) sm;rw[<- Z]at R;have k4:=qQd (o:=.cells ((roC im (k+1)).map u8).toArray 5 (0,0)) D;simp -implicitDefEqProofs only[go_sem,j7,jV,Y,and_self,iTn,j8,R,c2];exact⟨80 - (k+1),x8,k+1,rfl,x8,rfl,k4,O.put (b:=w.heap.size) _ fun h=>by omega⟩
 ·rw[decide_eq_false (show ¬ im.length+k<im.length+80 by omega)]at I
  obtain rfl:k=80:=x8
  simp -implicitDefEqProofs only[go_sem,j7,I];refine⟨w.heap.size,rfl,?_,O,xC _⟩;have J:roC im 80=im++zG 80 165:=by simp[roC]
  rw[J]at D;have:=row_by (m:=im.length+80) (cap:=im.length+80) (d:=im++zG 80 165) D sm (xC _)
  rwa [zB sm]at this
def inI (w:World)(A iv:Value)(im:Bs)(n:Nat)(vs:List Value)(w':World):Prop:=∃ i:Nat,vs=[A,iv,.int .i64 (i:Nat)]/\i<=im.length+80/\n=im.length+80 - i/\No w w'
theorem intact (w:World){V iv:Value}(W:By w V (im++zG 80 165))(hi:By w iv im)(hn:im.length<=2 ^ 47):Fn prog 12 #[V,iv] w fun v w'=>v=.bool true/\No w w':=by
 refine go12 sm ?_;obtain⟨la,lc,D,_⟩:=W.slice;obtain⟨ia,ic,R,_⟩:=hi.slice;have E:(im++zG 80 (165:Byte)).length=im.length+80:=sm
 rw[E]at D;subst D R;have c1:IntKind.i64.wrap ((im.length:Int)+80)=((im.length+80:Nat):Int):=qXa (b:=80);have d0:((((im.length+80:Nat):Int)) != ((im.length+80:Nat):Int))=false:=bNe _;simp -implicitDefEqProofs only[go_sem,j7,bNe,jV,Tryz.f12,c1];refine loopD [0,1,5] (inI w (.slice la (im.length+80) lc) (.slice ia im.length ic) im) (im.length+80) ⟨0,rfl,Nat.zero_le _,rfl,Fr.refl _ _⟩ ?_;rintro _ vs L g ⟨i,rfl,a0,rfl,H⟩;have I:=natlt i (im.length+80);have c2:=iSu (i:=i)
 by_cases J:i<im.length+80
 case neg =>
  rw[decide_eq_false J]at I;simp -implicitDefEqProofs only[go_sem,j7,I];exact H
 rw[decide_eq_true J]at I;obtain⟨T,lo,a3,Y,B⟩:=(W.fr0 H).rd1 (i:=i) x8;rw[E]at Y;cases Y;have A:rdO prog 5 L.drew T (lo+i)=_:=B;have Z:=iBd (i:=i) (n:=im.length+80);have M:=natlt i im.length;have N:decide ((i:Int) ≥ ((im.length:Nat):Int))=decide (im.length<=i):=natle _ _
 by_cases O:i<im.length
 ·rw[decide_eq_true O]at M
  rw[decide_eq_false (show ¬ im.length<=i by omega)]at N;obtain⟨ib,io,a4,e2,r2⟩:=(hi.fr0 H).rd1 (i:=i) O;cases e2;have a5:rdO prog 5 L.drew ib (io+i)=_:=r2;have y2:=iBd (i:=i) (n:=im.length);have U:(im++zG 80 (165:Byte)).getD i 0=im.getD i 0:=by rw[gDq,gDq,List.getElem?_append_left O]
  rw[U]at B A;simp -implicitDefEqProofs only[go_sem,j7,bSe,I,M];simp -implicitDefEqProofs only[go_sem,j7,bSe,Z,and_self];simp -implicitDefEqProofs only[go_sem,j7,bSe,B,y2,and_self,iTn,j8];simp -implicitDefEqProofs only[go_sem,j7,bSe,bNe,r2];simp -implicitDefEqProofs only[go_sem,qQq,N,c2];exact⟨im.length+80 - (i+1),x8,i+1,rfl,x8,rfl,H.drew⟩
 ·rw[decide_eq_false O]at M
  rw[decide_eq_true (show im.length<=i by omega)]at N
  have U:(im++zG 80 (165:Byte)).getD i 0=165:=by
   rw[gDq,List.getElem?_append_right x8,List.getElem?_replicate,if_pos x8];rfl
  rw[U]at B A;have B:rdO prog 5 L T (lo+i)=some (.int .u8 165):=B;have A:rdO prog 5 L.drew T (lo+i)=some (.int .u8 165):=B;simp -implicitDefEqProofs only[go_sem,j7,bSe,qQq,I,M];simp -implicitDefEqProofs only[go_sem,j7,bSe,bNe,N,Z,and_self,A,c2];exact⟨im.length+80 - (i+1),x8,i+1,rfl,x8,rfl,H.drew⟩
end A
end
section
open Aud A
theorem small_cnt {D:Bs}(I:D.length=32):cntP isLf (pgF (smI D) smS.mark) smS.mark=1/\(chK (pgF (smI D) smS.mark) smS.mark).length=1:=by
 obtain⟨A,B,E,H⟩:=small_pg I;rw[show smS.mark=4 from rfl];unfold cntP chK;rw[show qI 4=[0,1,2,3] from rfl];constructor
 ·simp[A,B,E,H,isLf]
 ·simp[A,B,E,H,isRc]
theorem look_err (h:lookP im=.error e):(e == 0)=false:=by
 rw[look_open]at h
 cases A:openP im with
 | error D =>
  rw[A]at h;cases h;have:=R.open_err A;have B:e≠0:=bne_iff_ne.1 this;exact beq_eq_false_iff_ne.2 B
 | ok s=>rw[A]at h;cases h
theorem auditMade (w:World)(ht:Tabs w)(a0:R.DivT w)(hi:By w iv im)(hl:im.length<=2 ^ 47) :
  Fn prog 3 #[iv] w fun v w'=>v=.bool true/\No w w':=by
 refine go3 sm ?_;obtain⟨ia,ic,hiv,c7⟩:=hi.slice;simp -implicitDefEqProofs only[go_sem,Tryz.f3];have hD:Go.V.climb 3 kz 0 (leafD 3 kz [7]) ((empts 3 257).take 256)=dgT 3 256 smT:=(R.dgT_leaf 3 2 kz [7]).symm;have M:(dgT 3 256 smT).length=32:=by rw[<- hD];exact qKi _ _ _ _ _ (qZo _ _ _)
 refine qQa pl9 ((R.small w ht a0 hD M).mono ?_);rintro v1 w1 ⟨b1,f1⟩;simp -implicitDefEqProofs only[go_sem];refine qQa pl8 ((check w1 (ht.no f1) b1.by (by rw[smI_len M];decide)).mono ?_);rintro v2 B D;unfold CkQ at D;obtain⟨f2,D⟩:=D;rw[small_look M rfl]at D;obtain⟨fv,D,U⟩:=D;obtain⟨z1,z2⟩:=small_cnt M;rw[z1,z2]at D;subst D;obtain⟨Z,fc,rfl,_⟩:=U.rd.slice;have z3:(fnR []).length=0:=rfl;rw[z3];obtain⟨W3,b3,f3,k3,s3⟩:=qQl B rp0 25;have zz:xS 9 (vU .i64 0)++#[Value.slice none 0 0]=rp0:=x9
 generalize I:(rpC smS.width smS.pages smS.mark smS.head (if isRc (pgF (smI (dgT 3 256 smT)) smS.mark smS.head) then (rcAt (pgF (smI (dgT 3 256 smT)) smS.mark) smS.head).first else 0) (if isRc (pgF (smI (dgT 3 256 smT)) smS.mark smS.head) then (rcAt (pgF (smI (dgT 3 256 smT)) smS.mark) smS.head).ver else 0) 1 (cntP isBrn (pgF (smI (dgT 3 256 smT)) smS.mark) smS.mark) 1 (.slice Z 0 fc))=O;have V:O.size=10:=by rw[<- I];rfl
 have b4:O.all one=true:=by rw[<- I,<- kJ];rfl
 have q3:wrO prog 25 W3 B.heap.size 0 (.agg O)=some (put W3 B.heap.size (.cells O 25 (0,0))):=qQo (by rw[V];exact sz25) k3 (by rw[V];rfl) b4;have k4:=qQd (o:=.cells O 25 (0,0)) k3;have f4:No B (put W3 B.heap.size (.cells O 25 (0,0))):=f3.put (b:=B.heap.size) _ fun h=>by omega
 have c8:B.heap.size<(put W3 B.heap.size (.cells O 25 (0,0))).heap.size:=qQi k4;simp -implicitDefEqProofs only[go_sem,j7,yU,bSe,bNe,jV,zz,b3,q3];generalize put W3 B.heap.size (.cells O 25 (0,0))=w4 at *;have a3:=(f1.trans f2).trans f4;have r9:rdO prog 23 w4 B.heap.size 9=some (.slice Z 0 fc):=rd1 agg23 k4 (by rw[<- I];rfl);have r6:rdO prog 3 w4 B.heap.size 6=some (.int .i64 1):=rd1 agg3 k4 (by rw[<- I];rfl);have r8:rdO prog 3 w4 B.heap.size 8=some (.int .i64 1):=rd1 agg3 k4 (by rw[<- I];rfl);have dz:(((0:Nat):Int) != 0)=false:=rfl;simp -implicitDefEqProofs only[go_sem,j7,bSe,bNe,jV,r9,r6,r8,dz];refine qQa pl10 ((roomy w4 (hi.fr0 a3) hl).mono ?_);rintro v5 w5 ⟨lb,rfl,a4,f5,c9⟩;have a5:=a3.trans f5;have sl:=slc_hi (P:=prog) slc22 arr22 sz5 (a:=some ⟨lb,0,none⟩) (l:=im.length) (n:=im.length+80) (cap:=im.length+80) x8 (xC _);have bi:=a4.cutV (l:=0) (m:=im.length) x8 x8 sm;rw[List.drop_zero,Nat.sub_zero,List.take_left]at bi;rw[hiv];rw[hiv]at hi;simp -implicitDefEqProofs only[go_sem,j7,sl];refine qQa pl8 ((check w5 (ht.no a5) bi hl).mono ?_);rintro v6 w6 D;unfold CkQ at D;obtain⟨f6,D⟩:=D;have b5:=a5.trans f6;have k6:=(f5.trans f6).at k4 id;have d0:=qQi k4;have s5:=f5.size;have s6:=f6.size;have d1:=(f1.trans f2).size
 obtain⟨e,A,c,b6,T,a6,W,J,a7⟩:∃ (e:Int) (A:Array Value) (c:Bool),v6=.tuple #[.agg A,.int .i64 e]/\A.size=10/\A.all one=true/\(∃ (a:Option Addr) (n cap:Nat),A[9]?=some (.slice a n cap)/\((e == 0) && ((n:Int) == 0))=c)/\True/\(c=true ↔ ∃ s,lookP im=.ok (s,[])):=by
  cases E:lookP im with
  | error e =>
   rw[E]at D;have he:=look_err E;refine⟨e,rp0,false,D,rfl,by rw[<- kJ];rfl,⟨none,0,0,rfl,by rw[he];rfl⟩,trivial,(fun h=>by cases h),fun ⟨s,h⟩=>by cases h⟩
  | ok y =>
   obtain⟨s,fs⟩:=y;rw[E]at D;obtain⟨fv,D,U⟩:=D;obtain⟨a,cap,a8,_⟩:=U.rd.slice;rw[fnR_len]at a8;subst a8;refine⟨0,_,decide (fs=[]),D,rfl,by rw[<- kJ];rfl,⟨a,fs.length,cap,rfl,?_⟩,trivial,?_⟩
   ·rw[show ((0:Int) == 0)=true from rfl,Bool.true_and,show (((fs.length:Nat):Int) == 0)=decide (fs.length=0) from nateq fs.length 0]
    simp[List.length_eq_zero_iff]
   ·rw[decide_eq_true_iff]
    exact⟨fun h=>⟨s,by rw[h]⟩,fun ⟨s',h⟩=>by cases h;rfl⟩
 subst b6;obtain⟨b7,fn,b8,W,J⟩:=W;have q7:wrO prog 25 w6 B.heap.size 0 (.agg A)=some (put w6 B.heap.size (.cells A 25 (0,0))):=qQo (by rw[T];exact sz25) k6 (by rw[T,V]) a6;have k7:=qQd (o:=.cells A 25 (0,0)) k6;have b9:No w (put w6 B.heap.size (.cells A 25 (0,0))):=b5.put (b:=B.heap.size) _ fun h=>by omega
 have c0:Fr (fun b=>b=B.heap.size) w5 (put w6 B.heap.size (.cells A 25 (0,0))):=(f6.mono fun _ _ h=>h.elim).put (b:=B.heap.size) _ fun _=>rfl;simp -implicitDefEqProofs only[go_sem,j7,q7];have c3:=a4.fr c0 fun b hb _ h=>by simp only[qQf,oSi]at hb;omega
 generalize put w6 B.heap.size (.cells A 25 (0,0))=w7 at *;refine qXj (fun j=>j == 9) (.row [0,8,1,2,3,4,5,6,7,9,10,11,12,13,14,15,16]) rfl x9 x9 ?_;have fd:No w7 w7.drew:=(Fr.refl _ _).drew;have c4:=c3.fr0 fd;have H:=b9.trans fd;have k8:=fd.at k7 id;generalize w7.drew=w8 at *;have c5:rdO prog 23 w8 B.heap.size 9=some (.slice b7 fn b8):=rd1 agg23 k8 W;have a9:=R.made17 w8 (ht.no H) (a0.no H) (hi.fr0 H) hl;have b0:∀ (N:World),No w8 N->Fn prog 12 #[.slice (some ⟨lb,0,none⟩) (im.length+80) (im.length+80),.slice ia im.length ic] N fun v w'=>v=.bool true/\No N w':=fun N L=>intact N (c4.fr0 L) ((hi.fr0 H).fr0 L) hl
 by_cases he:e=0
 ·have de:(e == 0)=true:=beq_iff_eq.2 he
  rw[de,Bool.true_and]at J;simp -implicitDefEqProofs only[go_sem,j7,yX,bSe,jV,OT.row,de,c5];refine qQc pl11 (a9.mono ?_);rintro _ N ⟨L,b,rfl,hb⟩;have Y:c=b:=Bool.eq_iff_iff.2 (a7.trans (made_iff.trans hb.symm));refine⟨(fun _=>L.ext),?_⟩;have c6:(((fn:Nat):Int) == 0)=b:=J.trans Y;simp -implicitDefEqProofs only[go_sem,j7,yX,bSe,c6];refine qQc pl12 ((b0 N L).mono ?_);rintro _ wa ⟨rfl,Z⟩;refine⟨(fun h=>by cases h),?_⟩;simp -implicitDefEqProofs only[go_sem,j7,yX];exact (H.trans L).trans Z
 ·have de:(e == 0)=false:=beq_eq_false_iff_ne.2 he
  rw[de,Bool.false_and]at J;simp -implicitDefEqProofs only[go_sem,j7,yX,qQq,OT.row,de];refine qQc pl11 (a9.mono ?_);rintro _ N ⟨L,b,rfl,hb⟩;have Y:c=b:=Bool.eq_iff_iff.2 (a7.trans (made_iff.trans hb.symm));obtain rfl:false=b:=J.trans Y;refine⟨(fun _=>L.ext),?_⟩;simp -implicitDefEqProofs only[go_sem,j7,yX,bSe];refine qQc pl12 ((b0 N L).mono ?_);rintro _ wa ⟨rfl,Z⟩;refine⟨(fun h=>by cases h),?_⟩;simp -implicitDefEqProofs only[go_sem,j7,yX];exact (H.trans L).trans Z
end
end Go.V
