/- Helpers. -/
import Derived.Test.YtppmpdjlmgfdkaaGreatDoorB21
import Derived.Test.YtppmpdjlmgfdkaaGreatDoorB08
import Derived.Test.YtppmpdjlmgfdkaaGreatDoorB09
import Derived.Test.YtppmpdjlmgfdkaaGreatDoorB19
set_option linter.all false
set_option maxRecDepth 100000
set_option maxHeartbeats 8000000
open Array renaming all_toList->kU
open Bool renaming not_false->xH,not_true->vK
open List renaming getElem_append_left->jQ,replicate->zK,append_nil->zO,length_map->zB,getElem?_append_right->z4,getElem?_eq_getElem->xE
open Nat renaming reduceEqDiff->yJ,zero_add->jY,reduceBEq->yY,reduceAdd->vH,le_trans->kD,le_refl->xC,zero_le->jK,sub_self->kP,mul_one->yK
open Go.Value renaming cells->yN,int->vM,agg->vN
namespace Go.V
open Go.Proofs.Tryz Go.V.Tryz
open Go.Proofs Sha
variable {cs:Array Value} {im k x:Bs} {el i m n sb:Nat} {F:Nat->Prop} {iv v vv:Value} {b u w w':World}
section
namespace A
open Aud
theorem rowAt_self (n:Nat)(row:Bs)(o:PT):(Aud.rowAt n row o (n,row)).getD 0=o.page:=by
 cases o with
 | nil=>rfl
 | leaf p k v=>unfold Aud.rowAt;rw[if_pos rfl];rfl
 | br p l r=>unfold Aud.rowAt;rw[if_pos rfl];rfl
theorem Here.rowOf {c:Cx}{T:PT}{n:Nat}{row:Bs}{at':Bool}{o:PT}(h:Here c T n row at' o):(Aud.rowAt 0 Aud.zrow T (n,row)).getD 0=rowOf at' o:=by
 rw[h.pos.rows n row (xC _) ((qKb h.hn).2 fun _ _=>rfl)]
 cases at' with
 | false=>rfl
 | true=>exact rowAt_self n row o
theorem Here.lfOf {c:Cx}{T:PT}{n:Nat}{row:Bs}{at':Bool}{o:PT}(h:Here c T n row at' o){k:Bs}(A:n<=common k row):(lfAt T k).getD 0=lfOf k o:=by
 rw[h.pos.lvs k A,lfAt_of h.wf]
def TrS (c:Cx)(w0:World)(A:List Value)(n:Nat)(row:Bs)(B:List Value)(E H I J:Value)(w:World):Prop :=
 E=pt c.pb 0/\H=pt w0.heap.size 0/\I=pt (w0.heap.size+1) 0/\∃ b,J=pt b 0/\w0.heap.size<=b/\w.heap[b]?=some (.cells B.toArray 78 (0,0))/\w.heap[w0.heap.size]?=some (.cells A.toArray 217 (0,0))/\w.heap[w0.heap.size+1]?=some (.cells (rwC n row).toArray 158 (0,0))
theorem TrS.fr {c:Cx}{w0 w w':World}{B E:List Value}{row:Bs}{H I J L:Value}(h:TrS c w0 B n row E H I J L w)(f:Fr F w w')(A:∀ b,F b->b<w0.heap.size):TrS c w0 B n row E H I J L w':=by
 obtain⟨a,b,d,M,e,N,O,R,T⟩:=h;exact⟨a,b,d,M,e,N,f.at O fun e=>by have:=A _ e;omega,f.at R fun e=>by have:=A _ e;omega,f.at T fun e=>by have:=A _ e;omega⟩
theorem PassM.drew {c:Cx}{next:Nat}{rows:List (RK × Value)}{lvs:List (Bs × Value)}(h:PassM c w next rows lvs):PassM c w.drew next rows lvs:=h.fr0 (Fr.refl _ _).drew
theorem PassM.off {c:Cx}{next:Nat}{rows:List (RK × Value)}{lvs:List (Bs × Value)}(h:PassM c w next rows lvs){b:Nat}(A:w.heap[b]?=some (.cells cs el (0,0)))(B:el≠73)(E:el≠213):¬ PaB c b:=by
 obtain⟨fv,bv,H,_⟩:=h.sg;obtain⟨_,_,I,_⟩:=h.nowR;obtain⟨_,_,J,_⟩:=h.nowL;rintro (rfl | rfl | rfl | rfl)
 ·rw[H.row]at A;cases A;exact B rfl
 ·rw[h.pass]at A;cases A;exact E rfl
 ·rw[I]at A;cases A
 ·rw[J]at A;cases A
theorem PassM.nwb {c:Cx}{next:Nat}{rows:List (RK × Value)}{lvs:List (Bs × Value)}(h:PassM c w next rows lvs)(A:NwB c.u w vv x)(f:Fr (PaB c) w w'):NwB c.u w' vv x:=A.fr f fun b B=>by
 rcases A.own with ⟨rfl,_⟩ | ⟨H,I,cap,c',rfl,E,_⟩
 ·cases B
 ·cases B;exact h.off E x9 x9
theorem look_drew {t:TypeId}{m k:Value}:lookO prog t w.drew m k=lookO prog t w m k:=rfl
theorem through {c:Cx}(hk:c.Ok){T:PT}(hT:OldT c T):∀ (f n:Nat),f+n=257->ThF c T f n:=by
 intro f
 induction f with
 | zero =>
  intro n e;unfold ThF;intro w next rows lvs row at' o page by' count sum h V hf b3 hsum
  exact absurd V.hn om
 | succ f b4 =>
  intro n e;have ih:ThF c T f (n+1):=b4 (n+1) om;unfold ThF;intro w next rows lvs row at' o page by' count sum h V hf b3 hsum
  refine go126 sm ?_;have lP:∀ {b:Nat},PaB c b->b<w.heap.size:=h.lt;obtain⟨W,hW,f1,k1,k2,s1⟩:=qZz w (stC page by' count sum).toArray 217 (rwC n row).toArray 158;have H:=h.fr0 f1;have ls:=qQp (P:=prog) (t:=217) agg217 sz217 k1 (by simp[stC,hsum]);obtain⟨_,_,t2⟩:=rdRw V.hrow.1 k2;simp only[go_sem,yJ,vH,yN,jY,Tryz.f126,hW,ls,t2];refine qQa pl161 ((links H hk V.hrow.1 page by' count sum).mono ?_);rintro _ w3 ⟨rfl,f3⟩;have h3:=H.fr0 f3;have k1:=f3.at k1 id;have k2:=f3.at k2 id;have f3:=f1.trans f3;clear H ls t2 f1;rw[thr_part]
  cases hl:Aud.linked (ndsP c.pg) n row page by' count with
  | none =>
   have b1:rdO prog 3 w3 w.heap.size 1=some (.int .i64 (by':Nat)):=rd1 agg3 k1 rfl;obtain⟨p0,_⟩:=h3.rds;have c1:(none:Option Nd).isSome=false:=rfl;simp only[go_sem,yJ,yY,xH,jY,c1,p0,b1];refine qQa pl44 (((h3.fr0 (Fr.refl _ _).drew).find hk by' 170).mono ?_);rintro _ w9 ⟨rfl,e9⟩;simp only[go_sem];exact⟨rfl,e9⟩
  | some nd =>
   obtain⟨hp,hby,a6⟩:=qVq hl;have c1:(some nd).isSome=true:=rfl;simp only[go_sem,vK,c1];refine qXg (Q:=fun e R Y=>e=.normal/\No w Y/\∃ vv,TrS c w (stC page by' count sum) n row (ndA nd vv) (R 0) (R 4) (R 5) (R 7) Y/\one vv=true/\NwB c.u Y vv (ndVal nd)) _ (fun e R Y=>?_) ?_
   ·rintro⟨rfl,f1,vv,hS,ov,nb⟩
    rw[thenQ_normal];have H:=h.fr0 f1;have I:=(hk.hnd page _ (qJt.1 hp)).2;have c0:=(hk.hnd page _ (qJt.1 hp)).1;have c3:=f1.mono (G:=PaB c) fun _ _ h=>h.elim;refine qZk (fun R Y=>∃ t m,part c f n at' o row page by' next nd=.ok (t,m)/\TrS c w (stC page by' count sum) n row (ndA nd vv) (R 0) (R 4) (R 5) (R 7) Y/\NwB c.u Y vv (ndVal nd)/\Fr (PaB c) w Y/\∃ A E,PassM c Y m A E/\RowsIn n row t rows A/\LvsIn t lvs E) ?_ ?_
    ·obtain⟨e0,e4,e5,b7,e7,c4,k7,k4,k5⟩:=id hS
     have b0:rdO prog 3 Y w.heap.size 0=some (.int .i64 (page:Nat)):=rd1 agg3 k4 rfl;have b1:rdO prog 3 Y w.heap.size 1=some (.int .i64 (by':Nat)):=rd1 agg3 k4 rfl;obtain⟨p0,p1,p2,p3,p4,p5,p6,p7,p8,p9⟩:=H.rds;obtain⟨_,_,t2⟩:=rdRw V.hrow.1 k5;have U:=natlt page c.fresh;have lo:=H.oldRow hT (n:=n) V.hrow.1;rw[V.rowOf]at lo;have a4:=nateq (rowOf at' o) page;have ln:=qQp (P:=prog) (t:=78) agg78 sz78 k7 (by simp[qJd I])
     have a3:∀ {L B M t m}, part c f n at' o row page by' next nd=.ok (t, m)->Fr (PaB c) Y L->PassM c L m B M->RowsIn n row t rows B->LvsIn t lvs M ->
       ∃ t m,part c f n at' o row page by' next nd=.ok (t,m)/\TrS c w (stC page by' count sum) n row (ndA nd vv) (R 0) (R 4) (R 5) (R 7) L/\NwB c.u L vv (ndVal nd)/\Fr (PaB c) w L/\∃ A E,PassM c L m A E/\RowsIn n row t rows A/\LvsIn t lvs E :=
      fun {L B M t m} J Z h5 rr ll=>⟨t,m,J,hS.fr Z (fun _ e=>lP e),H.nwb nb Z,c3.trans Z,B,M,h5,rr,ll⟩
     cases nd with
     | leaf k v =>
      obtain⟨d0,d1,d2,d3,d4⟩:=rdLf I.1 k7;have c7:((1:Int) == 1)=true:=rfl
      by_cases N:page<c.fresh
      ·rw[decide_eq_true N]at U
       have ll:=H.oldLf hT I.1;rw[V.lfOf a6.2]at ll;have a7:=nateq (lfOf k o) page
       by_cases O:lfOf k o=page
       ·rw[decide_eq_true O]at a7
        simp only[go_sem,yJ,yY,bSe,vK,jY,e0,e4,e5,e7,b0,p8,U,p3,p6,t2,look_drew,lo,a4,d0,p7,d3,ll,a7];refine qQa pl162 ((keep hk (t:=.leaf page k v) (dgf:=dgT c.s.width) H.drew.drew.drew hp c0 (fun h=>by cases h) V.hn V.hrow).mono ?_);rintro _ L ⟨rfl,Z,B,M,h5,rr,ll⟩;simp only[go_sem,yJ];exact a3 ((if_pos N).trans (if_pos O)) (((Fr.refl _ _).drew.drew.drew).trans Z) h5 rr ll
       ·rw[decide_eq_false O]at a7
        simp only[go_sem,yJ,yY,bSe,xH,jY,e0,e4,e5,e7,b0,p8,U,p3,p6,t2,look_drew,lo,a4,d0,p7,d3,ll,a7,p0,b1];refine qQa pl44 ((H.drew.drew.drew.drew.find hk by' 172).mono ?_);rintro _ w9 ⟨rfl,e9⟩;simp only[go_sem];rw[show part c f n at' o row page by' next (.leaf k v)=.error (by',172) from (if_pos N).trans (if_neg O)];exact⟨rfl,e9⟩
      ·rw[decide_eq_false N]at U
       simp only[go_sem,yJ,yY,jY,e0,e4,e5,e7,b0,p8,U,ln,t2];refine qQa pl163 ((anewLf H.drew hk hT V hp a6.2 ov (nb.by.fr0 (Fr.refl _ _).drew) om).mono ?_);rintro x L hq;have J:part c f n at' o row page by' next (.leaf k v)=newLf c o page next k v:=if_neg N
       cases hR:newLf c o page next k v with
       | error e =>
        rw[hR]at hq J;obtain⟨rfl,hq⟩:=hq;simp only[go_sem,xH];rw[J];exact⟨rfl,hq⟩
       | ok y =>
        obtain⟨t,m⟩:=y;rw[hR]at hq J;obtain⟨rfl,Z,B,M,h5,rr,ll⟩:=hq;simp only[go_sem,yJ,vK];exact a3 J ((Fr.refl _ _).drew.trans Z) h5 rr ll
     | br lp rp lc rc ls rs =>
      obtain⟨d0,d1,d2,d3,d4,d5,d6⟩:=rdBr I.2.1 I.2.2 k7;have b5:((2:Int) == 1)=false:=rfl
      by_cases N:page<c.fresh
      ·rw[decide_eq_true N]at U
       by_cases O:rowOf at' o=page
       ·rw[decide_eq_true O]at a4
        simp only[go_sem,yJ,yY,vK,jY,e0,e4,e5,e7,b0,p8,U,p3,p6,t2,look_drew,lo,a4,d0,b5]
        have a9:o.page=page:=by
         cases at' with
         | true=>exact O
         | false=>have:0=page:=O;omega
        have b6:=keep hk (t:=o) (dgf:=dgT c.s.width) H.drew.drew V.st V.wf (fun h=>by rw[h]at a9;have:0=page:=a9;omega) V.hn V.hrow;rw[a9]at b6;refine qQa pl162 (b6.mono ?_);rintro _ L ⟨rfl,Z,B,M,h5,rr,ll⟩;simp only[go_sem,yJ];exact a3 ((if_pos N).trans (if_pos O)) ((Fr.refl _ _).drew.drew.trans Z) h5 rr ll
       ·rw[decide_eq_false O]at a4
        simp only[go_sem,yJ,yY,xH,jY,e0,e4,e5,e7,b0,p8,U,p3,p6,t2,look_drew,lo,a4,d0,b5,p0,b1];refine qQa pl44 ((H.drew.drew.drew.find hk by' 172).mono ?_);rintro _ w9 ⟨rfl,e9⟩;simp only[go_sem];rw[show part c f n at' o row page by' next (.br lp rp lc rc ls rs)=.error (by',172) from (if_pos N).trans (if_neg O)];exact⟨rfl,e9⟩
      ·rw[decide_eq_false N]at U
       simp only[go_sem,yJ,yY,jY,e0,e4,e5,e7,b0,p8,U,ln,t2];refine qQa pl163 ((anewBr H.drew hk hT V hp a6.2 ov hf b3 ih).mono ?_);rintro x L hq;have J:part c f n at' o row page by' next (.br lp rp lc rc ls rs)=newBr c f n at' o row page next lp rp lc rc ls rs:=if_neg N
       cases hR:newBr c f n at' o row page next lp rp lc rc ls rs with
       | error e =>
        rw[hR]at hq J;obtain⟨rfl,hq⟩:=hq;simp only[go_sem,xH];rw[J];exact⟨rfl,hq⟩
       | ok y =>
        obtain⟨t,m⟩:=y;rw[hR]at hq J;obtain⟨rfl,Z,B,M,h5,rr,ll⟩:=hq;simp only[go_sem,yJ,vK];exact a3 J ((Fr.refl _ _).drew.trans Z) h5 rr ll
    ·rintro R Y ⟨t,m,J,⟨e0,e4,e5,b7,e7,c4,k7,k4,k5⟩,nb,f1,A,E,H,rr,ll⟩
     rw[J]
     have c5:(ndg c.s.width (256 - n) nd).length=32:=by
      cases nd with
      | leaf k v=>exact qKt _ _ _ _ _ (qZp _ _ _)
      | br lp rp lc rc ls rs=>exact qXm _ _ _
     simp only[go_sem];refine qXg (Q:=fun e R L=>e=.normal/\R 0=pt c.pb 0/\R 4=pt w.heap.size 0/\R 98=.bool (!(ndg c.s.width (256 - n) nd == sum))/\PassM c L m A E/\Fr (PaB c) w L/\L.heap[w.heap.size]?=some (.cells (stC page by' count sum).toArray 217 (0,0))) _ (fun e R Y=>?_) ?_
     ·rintro⟨rfl,e0,e4,a0,H,f1,k4⟩
      rw[thenQ_normal];obtain⟨p0,_⟩:=H.rds;have b1:rdO prog 3 Y w.heap.size 1=some (.int .i64 (by':Nat)):=rd1 agg3 k4 rfl
      by_cases hd:ndg c.s.width (256 - n) nd=sum
      ·rw[beq_iff_eq.2 hd]at a0
       have a0:R 98=.bool false:=a0;simp only[go_sem,a0];rw[if_pos hd];exact⟨rfl,f1,A,E,H,rr,ll⟩
      ·rw[beq_eq_false_iff_ne.2 hd]at a0
       have a0:R 98=.bool true:=a0;simp only[go_sem,yJ,yY,jY,a0,e0,e4,p0,b1];refine qQa pl44 ((H.drew.find hk by' 171).mono ?_);rintro _ w9 ⟨rfl,e9⟩;simp only[go_sem];rw[if_neg hd];exact⟨rfl,e9⟩
     ·refine qXl (fun _=>false) (.one 0 (.one 1 (.one 2 (.one 5 (.one 9 (.one 3 (.one 4 (.one 6 (.one 7 (.two 8 (.row [10,11]) 10 (.row [8,11]))))))))))) rfl x8 x8 ?_
      have f1:=f1.drew;have H:=H.drew;have nb:=nb.fr0 (Fr.refl _ _).drew;have k4:Y.drew.heap[w.heap.size]?=_:=k4;have k5:Y.drew.heap[w.heap.size+1]?=_:=k5;have k7:Y.drew.heap[b7]?=_:=k7;generalize Y.drew=W1 at *;obtain⟨p0,_⟩:=H.rds;obtain⟨t0,_⟩:=rdRw V.hrow.1 k5;have ln:=qQp (P:=prog) (t:=78) agg78 sz78 k7 (by simp[qJd I]);have wi:IntKind.i64.wrap (256 - (n:Int))=((256 - n:Nat):Int):=by rw[qQq (by have:=V.hn;omega) om];have:=V.hn;omega
      have a8:∀ W:World,W.heap[w.heap.size]?=some (.cells (stC page by' count sum).toArray 217 (0,0))->rdO prog 75 W w.heap.size 3=some (dg sum):=fun W k=>qJw (e:=217) (fz:=(0,0)) (a:=[.int .i64 (page:Nat),.int .i64 (by':Nat),.int .i64 (count:Nat)]) (m:=sum.map u8) (r:=[]) agg75 (by simp[hsum];exact sz75) (by simp[hsum]) (by rw[k,stC,zO]) rfl;have r1:=a8 W1 k4;have es:=eqDig c5 hsum;have c8:c.sb<w.heap.size:=lP (.inl rfl);obtain⟨fv,bv,hs,_,b8⟩:=H.srow
      have b9:Fn prog 164 #[pt c.sb 0,.agg (ndA nd vv).toArray,.int .i64 ((256 - n:Nat):Int)] W1 fun v w'=>v=dg (ndg c.s.width (256 - n) nd)/\Fr (fun b=>b=c.sb) W1 w'/\SRow c.u w' c.sb c.iv c.s c.mn c.mr c.cv c.vv fv (fun _=>False):=by
       have ht:Tabs W1:=hk.tabs.fr H.no fun _ _ h=>h;have h5:=hk.tabs.size
       cases nd with
       | leaf k v=>exact digestLf ht H.no.size (kD h5 hk.hsb) b8 (fun _ h=>h.elim) I.1 nb.by ov I.2 om
       | br lp rp lc rc ls rs=>exact digestBr ht H.no.size (kD h5 hk.hsb) b8 (fun _ h=>h.elim) I.2.1 I.2.2 (by have:=a6.2;omega) om
      have a3:∀ {L},Fr (fun b=>b=c.sb) W1 L->SRow c.u L c.sb c.iv c.s c.mn c.mr c.cv c.vv fv (fun _=>False)->PassM c L m A E/\Fr (PaB c) w L/\L.heap[w.heap.size]?=some (.cells (stC page by' count sum).toArray 217 (0,0)):=fun {L} Z a5=>⟨H.dig hk hs Z a5,f1.trans (Z.mono fun _ _ e=>.inl e),Z.at k4 fun e=>by omega⟩
      clear ih b4;simp only[go_sem,yJ,jY,OT.row,e0,e4,e5,e7,p0,ln,t0,wi,r1];refine⟨?_,?_⟩
      ·refine qQe pl164 (b9.mono ?_);rintro _ L ⟨rfl,Z,a5⟩
       refine⟨(fun h=>by cases h),?_⟩;obtain⟨a,b,k⟩:=a3 Z a5;have r5:rdO prog 75 L w.heap.size 3=some (dg sum):=a8 L k;simp only[go_sem,yJ,r5,es,eqg75];exact⟨e0,e4,a,b,k⟩
      ·refine qQe pl164 (b9.mono ?_);rintro _ L ⟨rfl,Z,a5⟩
       refine⟨(fun h=>by cases h),?_⟩;obtain⟨a,b,k⟩:=a3 Z a5;simp only[go_sem,yJ,es,eqg75];exact⟨e0,e4,a,b,k⟩
   ·refine qXl (fun j=>j == 10) (.row [0,1,2,7,3,4,5,6,8,9,10,11]) rfl x8 x8 ?_
    have f3:=f3.drew;have h3:=h3.fr0 (Fr.refl _ _).drew;have k1:w3.drew.heap[w.heap.size]?=_:=k1;have k2:w3.drew.heap[w.heap.size+1]?=_:=k2;generalize w3.drew=W1 at *;obtain⟨p0,p1,_⟩:=h3.rds;have b0:rdO prog 3 W1 w.heap.size 0=some (.int .i64 (page:Nat)):=rd1 agg3 k1 rfl;obtain⟨vv,lk,ov,nb,I,_,_⟩:=h3.ndS hk hp;obtain⟨W2,c6,f2,k3,s2⟩:=qQl W1 nd0.toArray 78;have q3:wrO prog 78 W2 W1.heap.size 0 (.agg (ndA nd vv).toArray)=some (put W2 W1.heap.size (.cells (ndA nd vv).toArray 78 (0,0))):=qQr (by simp[qJd I];exact sz78) k3 (by simp[qJd I,qXf z32l z32l z32l]) (by simpa using ndA_one ov);have fe:=f2.ext;simp only[go_sem,yJ,yY,yN,bSe,jY,qQk,OT.row,p0,p1,b0,lk,ndZero,c6,q3,fe,implies_true];have f4:=f2.put (b:=W1.heap.size) (.cells (ndA nd vv).toArray 78 (0,0)) fun h=>by omega
    exact⟨f3.trans f4,vv,⟨rfl,rfl,rfl,W1.heap.size,rfl,by have:=f3.size;omega,qQd k3,f4.at k1 id,f4.at k2 id⟩,ov,nb.fr0 f4⟩
end A
end
section
namespace A
open Aud
structure LkOk (u:World) (sb:Nat) (iv:Value) (s:Sup) (pg:Nat->Option Pg):Prop where
 tabs:Tabs u
 hsb:u.heap.size<=sb
 hiv:∀ b,qQc iv=some b->b<u.heap.size
 hm:s.mark<=4096
 hpg:∀ p,s.mark<=p->pg p=none
 hnd:∀ p n,pg p=some (.nd n)->2<=p/\n.right
 hrc:∀ p r,pg p=some (.rc r)->2<=p/\r.right/\r.sum.length=32
def ShM (u w:World)(b:Nat)(t:PT):Prop:=∃ A B rows lvs,w.heap[b]?=some (.cells #[.map (some A),.map (some B)] 155 (0,0))/\u.heap.size<=b/\u.heap.size<=A/\u.heap.size<=B/\Mp encR okR w A rows/\Mp encK okK w B lvs /\
 (∀ key,findM rows key=enP (Aud.rowAt 0 Aud.zrow t key))/\∀ k,findM lvs k=enP (lfAt t k)
def VsM (u w:World)(vv:Value)(ts:List PT):Prop:=∃ ps:List Nat,NwR u w 156 1 vv (ps.map fun b=>[pt b 0])/\ps.length=ts.length/\∀ (i b:Nat) (t:PT),ps[i]?=some b->ts[i]?=some t->ShM u w b t
theorem ShM.fr {b:Nat}{t:PT}(h:ShM u w b t)(f:Fr F w w')(H:∀ b c,w.heap[b]?=some (.cells c 155 (0,0))->¬ F b)(A:∀ b I n,w.heap[b]?=some (.map I n)->¬ F b):ShM u w' b t:=by
 obtain⟨J,L,rows,lvs,a,M,N,O,B,E,R,T⟩:=h;obtain⟨_,_,U,_⟩:=id B;obtain⟨_,_,V,_⟩:=id E;exact⟨J,L,rows,lvs,f.at a (H _ _ a),M,N,O,B.fr f (A _ _ _ U),E.fr f (A _ _ _ V),R,T⟩
section
variable {u w w':World} {sb:Nat} {iv:Value} {im:Bs} {s:Sup} {mn mr:Nat} {cv vv fv bv:Value} {nl rl:List (Nat × Value)} {pg:Nat->Option Pg} {k:Nat} {fs:List (Nat × Int)}
theorem rcAt_len (A:LkOk u sb iv s pg)(p:Nat):(rcAt pg p).sum.length=32:=by
 unfold rcAt;split
 ·rename_i r h;exact (A.hrc _ _ h).2.2
 ·simp
theorem rec_look (h:SgM u w sb iv im s mn mr cv vv fv bv nl rl pg s.mark fs)(H:LkOk u sb iv s pg)(p:Nat):∃ ok,lookO prog 69 w (.map (some mr)) (.int .i64 (p:Nat))=some (.agg (rcC (rcAt pg p)).toArray,ok):=by
 have A:=h.rcs.look keyN (k:=p) trivial map69 (z:=.agg (rcC rc00).toArray) x8;have B:=h.ra p
 have I:(if p<s.mark then pg p else none)=pg p:=by
  by_cases E:p<s.mark
  ·rw[if_pos E]
  ·rw[if_neg E,H.hpg p om]
 rw[I]at B;unfold rcAt;split at B
 ·rename_i r e;rw[B]at A;rw[e];exact⟨_,A⟩
 ·rename_i e
  rw[B]at A;split
  ·rename_i r J;exact absurd J (e r)
  ·exact⟨_,A⟩
end
theorem allocV (w:World):∃ W, (((w.alloc (.cells #[.map none, .map none] 155)).alloc (.map #[] 0)).alloc (.map #[] 0)).alloc (.cells #[.map (some (w.heap.size+1)), .map (some (w.heap.size+1+1))] 155)=W/\No w W /\
  W.heap[w.heap.size]?=some (.cells #[.map none,.map none] 155 (0,0))/\W.heap[w.heap.size+1]?=some (.map #[] 0)/\W.heap[w.heap.size+2]?=some (.map #[] 0)/\W.heap[w.heap.size+3]?=some (.cells #[.map (some (w.heap.size+1)),.map (some (w.heap.size+1+1))] 155 (0,0))/\W.heap.size=w.heap.size+4:=by
 obtain⟨A,O,R,T,U⟩:=qQl w #[.map none,.map none] 155;rw[O];have I:No A (A.alloc (.map #[] 0)):=(Fr.refl _ _).alloc _;have J:(A.alloc (.map #[] 0)).heap[A.heap.size]?=some (.map #[] 0):=qQb _ _;have s2:(A.alloc (.map #[] 0)).heap.size=A.heap.size+1:=qQf _ _;generalize A.alloc (.map #[] 0)=B at *;have H:No B (B.alloc (.map #[] 0)):=(Fr.refl _ _).alloc _;have L:(B.alloc (.map #[] 0)).heap[B.heap.size]?=some (.map #[] 0):=qQb _ _;have s3:(B.alloc (.map #[] 0)).heap.size=B.heap.size+1:=qQf _ _;generalize B.alloc (.map #[] 0)=M at *;obtain⟨V,Y,E,N,s4⟩:=qQl M #[.map (some (w.heap.size+1)),.map (some (w.heap.size+1+1))] 155;have Z:A.heap.size=w.heap.size+1:=U;have e2:B.heap.size=w.heap.size+2:=om
 have e3:M.heap.size=w.heap.size+3:=om
 rw[Z]at J;rw[e2]at L;rw[e3]at N;exact⟨V,Y,((R.trans I).trans H).trans E,E.at (H.at (I.at T id) id) id,by rw[E.blk (w.heap.size+1) om id,H.blk (w.heap.size+1) om id];exact J,by rw[E.blk (w.heap.size+2) om id];exact L,N,om⟩
theorem maxOne (a:Nat):maxL (.int .i64 1) [.int .i64 (a:Nat)]=some (.int .i64 ((max 1 a:Nat):Int)):=by
 show some (vM IntKind.i64 (if (a:Int) > 1 then (a:Int) else 1))=_
 congr 2
 split <;> omega
theorem chAt_lt {s:Sup}{pg:Nat->Option Pg}(B:LkOk u sb iv s pg)(i:Nat):chAt (chK pg s.mark) i<4096:=by
 unfold chAt;split
 ·omega
 ·rw[gDq]
  cases h:(chK pg s.mark)[i - 1]? with
  | none=>show 0<4096;omega
  | some x =>
   have A:=List.mem_of_getElem? h;unfold chK at A;have:=List.mem_range.1 (List.mem_filter.1 A).1;have:=B.hm;show x<4096;omega
theorem bldSh:bldO prog 155 []=some (.agg #[.map none,.map none]):=by
 unfold bldO;rw[zero155,places155];rfl
theorem bldSh2 (a b:Nat):bldO prog 155 [(0,.map (some a)),(1,.map (some b))]=some (.agg #[.map (some a),.map (some b)]):=by
 unfold bldO;rw[zero155,places155];rfl
theorem bldPa (sb A B f:Nat):bldO prog 213 [(0,pt sb 0),(1,pt A 0),(2,pt B 0),(3,.int .i64 (f:Nat))]=some (.agg #[pt sb 0,pt A 0,pt B 0,.int .i64 (f:Nat),.int .i64 0]):=by
 unfold bldO;rw[zero213,places213];rfl
structure LkM (u w:World) (sb:Nat) (iv:Value) (im:Bs) (s:Sup) (mn mr:Nat) (cv vv:Value) (nl rl:List (Nat × Value)) (pg:Nat->Option Pg) (fs:List (Nat × Int)) (ts:List PT):Prop where
 sg:∃ fv bv,SgM u w sb iv im s mn mr cv vv fv bv nl rl pg s.mark fs/\Blank u w s.width bv
 no:No u w
 vs:VsM u w vv ts
def ErrL (u:World)(sb:Nat)(iv:Value)(im:Bs)(s:Sup)(mn mr:Nat)(cv vv:Value)(nl rl:List (Nat × Value))(pg:Nat->Option Pg)(fs:List (Nat × Int))(w:World):Prop :=
 No u w/\∃ fv bv,SgM u w sb iv im s mn mr cv vv fv bv nl rl pg s.mark fs/\Blank u w s.width bv
section
variable {u w w':World} {sb:Nat} {iv:Value} {im:Bs} {s:Sup} {mn mr:Nat} {cv vv fv bv:Value} {nl rl:List (Nat × Value)} {pg:Nat->Option Pg} {k:Nat} {fs:List (Nat × Int)} {ts:List PT}
theorem VsM.fr0 (h:VsM u w vv ts)(f:No w w'):VsM u w' vv ts:=by
 obtain⟨ps,a,b,c⟩:=h;exact⟨ps,a.fr0 f,b,fun i A t B E=>(c i A t B E).fr f (fun _ _ _ h=>h) fun _ _ _ _ h=>h⟩
theorem LkM.fr0 (h:LkM u w sb iv im s mn mr cv vv nl rl pg fs ts)(f:No w w'):LkM u w' sb iv im s mn mr cv vv nl rl pg fs ts:=by
 obtain⟨fv,bv,A,B⟩:=h.sg;exact⟨⟨fv,bv,A.fr0 f,B.fr f fun _ _ _ _ _ h=>h⟩,h.no.trans f,h.vs.fr0 f⟩
theorem errFind (O:ErrL u sb iv im s mn mr cv vv nl rl pg fs w)(R:LkOk u sb iv s pg)(T:fs.length<=2 ^ 20)(p:Nat)(e:Int):Fn prog 44 #[pt sb 0,.int .i64 (p:Nat),.int .i64 e] w fun v w'=>v=.tuple #[]/\ErrL u sb iv im s mn mr cv vv nl rl pg (fs++[(p,e)]) w':=by
 obtain⟨E,fv,bv,J,H⟩:=O;have I:=J.fnd;refine (sight_find J E.size R.hiv p e T).mono ?_;rintro v w' ⟨rfl,f,L,M⟩
 have N:∀ {b},FvB sb fv b->u.heap.size<=b:=fun {b} H=>by
  rcases H with rfl | H
  ·exact J.hsb
  ·exact I.2.new b H
 refine⟨rfl,E.trans' f fun b A e=>by have:=N e;omega,L,bv,M,H.fr f fun b c' A _ _ e=>?_⟩
 rcases e with rfl | e
 ·rw[J.row]at A;cases A
 ·obtain⟨U,B⟩:=qXa I e;rw[A]at B;cases B
end
def V2 (w0:World)(sb i p first:Nat)(r:Rc)(A B E H I:Value)(w:World):Prop :=
 A=pt sb 0/\B=.int .i64 (i:Nat)/\E=.int .i64 (p:Nat)/\I=.int .i64 (first:Nat)/\H=pt w0.heap.size 0/\w.heap[w0.heap.size]?=some (.cells (rcC r).toArray 80 (0,0))/\No w0 w
section
variable {u w w':World} {sb:Nat} {iv:Value} {im:Bs} {s:Sup} {mn mr:Nat} {cv vv fv bv:Value} {nl rl:List (Nat × Value)} {pg:Nat->Option Pg} {k:Nat} {fs:List (Nat × Int)}
def V9 (u w0:World)(sb i p:Nat)(r:Rc)(J L M N O:Value)(H I A B E fresh next:Nat)(R T:Option Nat)(w:World):Prop :=
 J=pt sb 0/\L=.int .i64 (i:Nat)/\M=.int .i64 (p:Nat)/\N=pt w0.heap.size 0/\O=pt H 0/\w.heap[H]?=some (.cells #[pt sb 0,pt I 0,pt A 0,.int .i64 (fresh:Nat),.int .i64 (next:Nat)] 213 (0,0))/\w.heap[I]?=some (.cells #[.map R,.map T] 155 (0,0)) /\
  w.heap[A]?=some (.cells #[.map (some B),.map (some E)] 155 (0,0))/\w.heap[B]?=some (.map #[] 0)/\w.heap[E]?=some (.map #[] 0)/\w.heap[w0.heap.size]?=some (.cells (rcC r).toArray 80 (0,0))/\No w0 w/\w0.heap.size<=H/\w0.heap.size<=A/\w0.heap.size<=B/\w0.heap.size<=E/\B≠E/\A≠I
def OldM (w0 w:World)(t:PT)(A B:Option Nat)(ro:List (RK × Value))(lo:List (Bs × Value)):Prop :=
 MpO encR okR w A ro/\MpO encK okK w B lo/\(∀ key,findM ro key=enP (Aud.rowAt 0 Aud.zrow t key))/\(∀ k,findM lo k=enP (lfAt t k))/\(∀ b,A=some b->b<w0.heap.size)/\∀ b,B=some b->b<w0.heap.size
def VsR (u:World)(sb:Nat)(iv:Value)(im:Bs)(s:Sup)(mn mr:Nat)(cv vv:Value)(nl rl:List (Nat × Value))(pg:Nat->Option Pg)(fs:List (Nat × Int))(ts:List PT)(r:Except (Nat × Int) PT)(v:Value)(w:World):Prop :=
 match r with
 | .ok t=>v=.bool true/\∃ A,LkM u w sb iv im s mn mr cv A nl rl pg fs (ts++[t])
 | .error e=>v=.bool false/\ErrL u sb iv im s mn mr cv vv nl rl pg (fs++[e]) w
def ahead (ts:List PT):PT:=ts.getLastD .nil
theorem version {ts:List PT}(hL:LkM u w sb iv im s mn mr cv vv nl rl pg fs ts)(ho:LkOk u sb iv s pg)(hfs:fs.length<=2 ^ 20)(hi:i=ts.length+1)(r5:i<=4096)(h1:(rcAt pg (chAt (chK pg s.mark) 1)).first<=2 ^ 30)
  (l7:(ahead ts).Wf 0) (l8:Stands (dgT s.width) (pnOf pg) 0 (ahead ts)) (l9:(ahead ts).page<max 1 (chAt (chK pg s.mark) (i - 1))+1) :
  Fn prog 82 #[pt sb 0,.int .i64 (i:Nat)] w fun v w'=>VsR u sb iv im s mn mr cv vv nl rl pg fs ts (verP s.width pg (chK pg s.mark) i (ahead ts)) v w':=by
 refine go82 sm ?_;generalize V:chK pg s.mark=ch at *;obtain⟨fv,bv,h,r7⟩:=hL.sg;simp only[go_sem,yJ,jY,Tryz.f82];refine qQa pl66 ((qKy h (i:=i) om).mono ?_);rintro _ w1 ⟨e1,rfl⟩;rw[e1,V];simp only[go_sem];refine qXg (Q:=fun e A w1=>e=.normal/\V2 w sb i (chAt ch i) (rcAt pg (chAt ch 1)).first (rcAt pg (chAt ch i)) (A 0) (A 1) (A 5) (A 6) (A 7) w1) _ (fun e A w1=>?_) ?_
 ·rintro⟨rfl,hV⟩
  rw[thenQ_normal];have g4:((rcAt pg (chAt ch i)).first=(rcAt pg (chAt ch 1)).first/\(rcAt pg (chAt ch i)).ver=(if 0<(rcAt pg (chAt ch 1)).first then (rcAt pg (chAt ch 1)).first+i - 1 else i)/\(rcAt pg (chAt ch i)).prev=chAt ch (i - 1)/\(rcAt pg (chAt ch i)).skip=chAt ch (far i))->verP s.width pg ch i (ahead ts)=root1 s.width (pnOf pg) (max 1 (chAt ch (i - 1))+1) (ahead ts) (chAt ch i) (rcAt pg (chAt ch i)):=fun h=>if_pos h;have g5:¬ ((rcAt pg (chAt ch i)).first=(rcAt pg (chAt ch 1)).first/\(rcAt pg (chAt ch i)).ver=(if 0<(rcAt pg (chAt ch 1)).first then (rcAt pg (chAt ch 1)).first+i - 1 else i)/\(rcAt pg (chAt ch i)).prev=chAt ch (i - 1)/\(rcAt pg (chAt ch i)).skip=chAt ch (far i))->verP s.width pg ch i (ahead ts)=.error (chAt ch i,173):=fun h=>if_neg h;generalize r8:(rcAt pg (chAt ch 1)).first=first at *;generalize m0:rcAt pg (chAt ch i)=r at *;have b5:r.sum.length=32:=by rw[<- m0];exact rcAt_len ho _
  refine qZk (fun A w1=>V2 w sb i (chAt ch i) first r (A 0) (A 1) (A 5) (A 6) (A 7) w1/\A 8=.int .i64 (i:Nat)) ?_ ?_
  ·obtain⟨O,x1,e5,e7,e6,k,f⟩:=hV
   simp only[go_sem,yJ,x1];exact And.intro ⟨by trivial,by trivial,by trivial,by trivial,by trivial,k,f⟩ trivial
  clear hV;rintro A w1 ⟨hV,e8⟩;refine qZk (fun A w1=>V2 w sb i (chAt ch i) first r (A 0) (A 1) (A 5) (A 6) (A 7) w1/\A 8=.int .i64 ((if 0<first then first+i - 1 else i:Nat):Int)) ?_ ?_
  ·obtain⟨O,x1,e5,e7,e6,k,f⟩:=hV
   have c9:decide ((first:Int) > 0)=decide (0<first):=sm
   by_cases hf:0<first
   ·rw[decide_eq_true hf]at c9
    have a1:IntKind.i64.wrap ((first:Int)+(i:Int))=((first+i:Nat):Int):=qXi (b:=i);have a2:IntKind.i64.wrap (((first+i:Nat):Int) - 1)=((first+i - 1:Nat):Int):=qXr (b:=1) om om;simp only[go_sem,yJ,e7,x1,c9,a1,a2];rw[if_pos hf];exact⟨⟨by trivial,by trivial,by trivial,by trivial,by trivial,k,f⟩,rfl⟩
   ·rw[decide_eq_false hf]at c9
    simp only[go_sem,yJ,e7,c9];rw[if_neg hf];exact⟨⟨by trivial,by trivial,by trivial,by trivial,by trivial,k,f⟩,e8⟩
  clear hV e8;rintro A w1 ⟨hV,e8⟩;generalize g6:(if 0<first then first+i - 1 else i)=num at *;simp only[go_sem];refine qXg (Q:=fun e A w1=>e=.normal/\V2 w sb i (chAt ch i) first r (A 0) (A 1) (A 5) (A 6) (A 7) w1/\A 63=.bool (!decide (r.first=first/\r.ver=num/\r.prev=chAt ch (i - 1)/\r.skip=chAt ch (far i)))) _ (fun e A w1=>?_) ?_
  ·rintro⟨rfl,hV,Y⟩
   rw[thenQ_normal];obtain⟨O,x1,e5,e7,e6,k,f⟩:=hV;have d0:=hL.fr0 f
   by_cases hc:r.first=first/\r.ver=num/\r.prev=chAt ch (i - 1)/\r.skip=chAt ch (far i)
   case neg =>
    rw[g5 hc];rw[decide_eq_false hc]at Y;have Y:A 63=.bool true:=Y;simp only[go_sem,yJ,Y,O,e5];refine qQa pl44 ((errFind ⟨d0.no,d0.sg⟩ ho hfs (chAt ch i) 173).mono ?_);rintro _ w9 ⟨rfl,T⟩;simp only[go_sem];exact⟨rfl,T⟩
   rw[g4 hc];rw[decide_eq_true hc]at Y;have Y:A 63=.bool false:=Y;clear g4 g5 hc g6 e8;have m3:IntKind.i64.wrap ((i:Int) - 1)=((i - 1:Nat):Int):=qXr (b:=1) om om;generalize hp:chAt ch i=p at *;have r9:p<4096:=by rw[<- hp,<- V];exact chAt_lt ho _
   generalize g7:chAt ch (i - 1)=pp at *;have q7:pp<4096:=by rw[<- g7,<- V];exact chAt_lt ho _
   generalize m4:max 1 pp+1=fresh at *;refine qXg (Q:=fun e g9 w'=>e=.normal/\g9=A/\w'=w1) _ (fun e g9 w'=>?_) ?_
   ·rintro⟨rfl,rfl,rfl⟩
    rw[thenQ_normal];refine qZk (fun A E=>∃ H ob Z nR nL,V9 u w sb i p r (A 0) (A 1) (A 5) (A 6) (A 9) H ob Z nR nL fresh 0 none none E/\LkM u E sb iv im s mn mr cv vv nl rl pg fs ts) ?_ ?_
    ·have m5:=bldSh
     have h0:=bldSh2 (w'.heap.size+1) (w'.heap.size+1+1);obtain⟨W4,m6,f4,a1,a2,a3,a4,s4⟩:=allocV w';simp only[go_sem,yJ,yN,O,x1,m5,h0,m6,m3];have h7:=d0.fr0 f4;obtain⟨s0,s9,h4,t0⟩:=h7.sg;refine qQa pl66 ((qKy h4 (i:=i - 1) om).mono ?_);rintro _ E ⟨b6,rfl⟩;rw[b6,V,g7];have m7:=maxOne pp;have wf:IntKind.i64.wrap (((max 1 pp:Nat):Int)+1)=(fresh:Int):=by rw[<- m4];exact qXi (b:=1)
     have m9:=bldPa sb w'.heap.size (w'.heap.size+1+1+1) fresh;obtain⟨W5,n0,f5,a5,s5⟩:=qQl W4 #[pt sb 0,pt w'.heap.size 0,pt (w'.heap.size+1+1+1) 0,.int .i64 (fresh:Nat),.int .i64 0] 213;have hw:=qQh k;simp only[go_sem,yJ,yN,m7,wf,m9,n0];exact⟨W4.heap.size,w'.heap.size,w'.heap.size+3,w'.heap.size+1,w'.heap.size+2,⟨by trivial,by trivial,by trivial,by trivial,rfl,a5,f5.at a1 id,f5.at a4 id,(f5.blk _ (qQh a2) id).trans a2,(f5.blk _ (qQh a3) id).trans a3,f5.at (f4.at k id) id,(f.trans f4).trans f5,om,om,om,om,om,om⟩,h7.fr0 f5⟩
    clear O x1 e5 e7 e6 k f d0 Y;rintro A E ⟨H,ob,Z,nR,nL,⟨O,x1,e5,e6,T,U,ko,kn,kR,kL,k,f,lp,ln,lR,lL,a0,b1⟩,a6⟩;refine qZk (fun A E=>∃ ob oR oL ro lo,V9 u w sb i p r (A 0) (A 1) (A 5) (A 6) (A 9) H ob Z nR nL fresh 0 oR oL E/\LkM u E sb iv im s mn mr cv vv nl rl pg fs ts/\OldM w E (ahead ts) oR oL ro lo) ?_ ?_
    ·by_cases t1:1<i
     ·have d7:=dTo ((i:Int) > 1)
      have n5:IntKind.i64.wrap ((i:Int) - 2)=((i - 2:Nat):Int):=qXr (b:=2) om om;obtain⟨ps,d1,b7,d8⟩:=id hL.vs;obtain⟨h8,h9,h5,k0⟩:=a6.sg;have rv:rdO prog 70 E sb 9=some vv:=rd1 agg70 h5.row rfl;have d9:=(d1.fr0 f).rd;have J:(ps.map fun b=>[pt b 0]).length=ts.length:=by rw[zB];exact b7
      obtain⟨vb,vo,q9,e3,_⟩:=d9.pos x9 (by rw[J];omega);have hj:i - 2<ps.length:=om
      have n6:rdO prog 156 E vb (vo+(i - 2))=some (pt (ps[i - 2]) 0):=by
       rw[e3]at d9;have:=d9.fld (P:=prog) (t:=156) agg156 (i:=i - 2) (by rw[J];omega) (j:=0) x9 (x:=pt (ps[i - 2]) 0) (by simp only[List.getElem_map,List.getElem?_cons_zero]);rw[yK,Nat.add_zero]at this;exact this
      rw[J]at e3
      have n7:ts[i - 2]?=some (ahead ts):=by
       unfold ahead;rw[List.getLastD_eq_getLast?,List.getLast?_eq_getElem?,show ts.length - 1=i - 2 by omega]
       cases hx:ts[i - 2]? with
       | none=>rw[List.getElem?_eq_none_iff]at hx;omega
       | some x=>rfl
      obtain⟨mR,mL,ro,lo,s1,s2,s3,s4,s5,s6,s7,s8⟩:=d8 (i - 2) (ps[i - 2]) (ahead ts) (xE hj) n7;generalize ps[i - 2]=b9 at *;have y1:(0:Int)<=((i - 2:Nat):Int)/\((i - 2:Nat):Int)<(ts.length:Int):=om
      have q:=wr1 (P:=prog) (t:=156) (w:=E) (b:=H) (o:=1) (v:=pt b9 0) sz156 rfl U (show 1<5 by decide);rw[e3]at rv;simp only[go_sem,yJ,jY,x1,d7,O,T,rv,n5,y1,and_self,if_true,iTn,yK,n6,q];have r4:=qQh s1;have fq:Fr (fun b=>b=H) E (put E H (.cells (#[pt sb 0,pt ob 0,pt Z 0,.int .i64 (fresh:Nat),.int .i64 (0:Nat)].setIfInBounds 1 (pt b9 0)) 213 (0,0))):=(Fr.refl _ _).put (b:=H) _ (fun _=>rfl);have e4:=qQd (o:=.cells (#[pt sb 0,pt ob 0,pt Z 0,.int .i64 (fresh:Nat),.int .i64 (0:Nat)].setIfInBounds 1 (pt b9 0)) 213 (0,0)) U;have a7:No w (put E H (.cells (#[pt sb 0,pt ob 0,pt Z 0,.int .i64 (fresh:Nat),.int .i64 (0:Nat)].setIfInBounds 1 (pt b9 0)) 213 (0,0))):=f.put (b:=H) _ fun h=>by omega
      have f0:Z≠H:=fun e=>by rw[e,U]at kn;cases kn
      have f7:nR≠H:=fun e=>by rw[e,U]at kR;cases kR
      have f9:nL≠H:=fun e=>by rw[e,U]at kL;cases kL
      have g0:w.heap.size≠H:=fun e=>by rw[e,U]at k;cases k
      refine⟨b9,some mR,some mL,ro,lo,⟨by trivial,by trivial,by trivial,by trivial,by trivial,e4,a7.at s1 id,fq.at kn f0,(fq.blk _ (qQh kR) f7).trans kR,(fq.blk _ (qQh kL) f9).trans kL,fq.at k g0,a7,lp,ln,lR,lL,a0,om⟩,hL.fr0 a7,s5.fr0 a7,s6.fr0 a7,s7,s8,?_,?_⟩
      ·intro b B;cases B;obtain⟨_,_,x,_⟩:=s5;exact qQh x
      ·intro b B;cases B;obtain⟨_,_,x,_⟩:=s6;exact qQh x
     ·have d7:=dFo ((i:Int) > 1)
      simp only[go_sem,yJ,x1,d7];refine⟨ob,none,none,[],[],⟨by trivial,by trivial,by trivial,by trivial,by trivial,U,ko,kn,kR,kL,k,f,lp,ln,lR,lL,a0,b1⟩,a6,?_⟩;have:ts=[]:=List.length_eq_zero_iff.1 om;rw[this];exact⟨rfl,rfl,fun _=>rfl,fun _=>rfl,(fun _ h=>by cases h),fun _ h=>by cases h⟩
    clear O x1 e5 e6 T U ko kn kR kL k f lp ln lR lL a0 b1 a6 ob;rintro A E ⟨ob,oR,oL,ro,lo,⟨O,x1,e5,e6,T,U,ko,kn,kR,kL,k,f,lp,ln,lR,lL,a0,b1⟩,a6,hO⟩;refine qZk (fun A E=>V9 u w sb i p r (A 0) (A 1) (A 5) (A 6) (A 9) H ob Z nR nL fresh fresh oR oL E/\LkM u E sb iv im s mn mr cv vv nl rl pg fs ts/\OldM w E (ahead ts) oR oL ro lo) ?_ ?_
    ·have r3:rdO prog 3 E H 3=some (.int .i64 (fresh:Nat)):=rd1 agg3 U rfl
     have q:=wr1 (P:=prog) (t:=3) (w:=E) (b:=H) (o:=4) (v:=.int .i64 (fresh:Nat)) sz3 rfl U (show 4<5 by decide);have fq:Fr (fun b=>b=H) E (put E H (.cells (#[pt sb 0,pt ob 0,pt Z 0,.int .i64 (fresh:Nat),.int .i64 (0:Nat)].setIfInBounds 4 (.int .i64 (fresh:Nat))) 213 (0,0))):=(Fr.refl _ _).put (b:=H) _ (fun _=>rfl);have e4:=qQd (o:=.cells (#[pt sb 0,pt ob 0,pt Z 0,.int .i64 (fresh:Nat),.int .i64 (0:Nat)].setIfInBounds 4 (.int .i64 (fresh:Nat))) 213 (0,0)) U;have a7:No w (put E H (.cells (#[pt sb 0,pt ob 0,pt Z 0,.int .i64 (fresh:Nat),.int .i64 (0:Nat)].setIfInBounds 4 (.int .i64 (fresh:Nat))) 213 (0,0))):=f.put (b:=H) _ fun h=>by omega
     simp only[go_sem,yJ,jY,T,r3,q];have f0:Z≠H:=fun e=>by rw[e,U]at kn;cases kn
     have n8:ob≠H:=fun e=>by rw[e,U]at ko;cases ko
     have f7:nR≠H:=fun e=>by rw[e,U]at kR;cases kR
     have f9:nL≠H:=fun e=>by rw[e,U]at kL;cases kL
     have g0:w.heap.size≠H:=fun e=>by rw[e,U]at k;cases k
     obtain⟨o1,o2,o3,o4,o5,o6⟩:=hO;exact⟨⟨by trivial,by trivial,by trivial,by trivial,by trivial,e4,fq.at ko n8,fq.at kn f0,(fq.blk _ (qQh kR) f7).trans kR,(fq.blk _ (qQh kL) f9).trans kL,fq.at k g0,a7,lp,ln,lR,lL,a0,b1⟩,hL.fr0 a7,o1.fr fq fun b B=>by have:=o5 b B;omega,o2.fr fq fun b B=>by have:=o6 b B;omega,o3,o4,o5,o6⟩
    clear O x1 e5 e6 T U ko kn kR kL k f lp ln lR lL a0 b1 a6 hO;rintro A E ⟨⟨O,x1,e5,e6,T,U,ko,kn,kR,kL,k,f,lp,ln,lR,lL,a0,b1⟩,a6,hO⟩;obtain⟨o1,o2,o3,o4,o5,o6⟩:=hO;obtain⟨h8,h9,h5,k0⟩:=a6.sg;obtain⟨_,_,m1,_⟩:=h.nds;obtain⟨_,_,m2,_⟩:=h.rcs;have t2:=qQh m1;have t3:=qQh m2;have hu:=hL.no.size
    obtain⟨c,L⟩:∃ c:Cx,c={ u:=u,sb:=sb,iv:=iv,im:=im,s:=s,mn:=mn,mr:=mr,cv:=cv,vv:=vv,nl:=nl,rl:=rl,pg:=pg,pb:=H,ob:=ob,nb:=Z,oR:=oR,oL:=oL,ro:=ro,lo:=lo,nR:=nR,nL:=nL,fresh:=fresh,fs:=fs }:=⟨_,rfl⟩
    have hk:c.Ok:=by
     subst L;exact { tabs:=ho.tabs,hRL:=a0,hRn:=⟨by show nR≠mn;omega,by show nR≠mr;omega⟩,hLn:=⟨by show nL≠mn;omega,by show nL≠mr;omega⟩,hoR:=fun b B=>by have:=o5 b B;exact⟨by show b≠nR;omega,by show b≠nL;omega⟩,hoL:=fun b B=>by have:=o6 b B;exact⟨by show b≠nR;omega,by show b≠nL;omega⟩,hpb:=by show u.heap.size<=H;omega,hsb:=ho.hsb,hnR:=by show u.heap.size<=nR;omega,hnL:=by show u.heap.size<=nL;omega,hiv:=ho.hiv,hm:=ho.hm,hpg:=ho.hpg,hnd:=ho.hnd,hf:=by show fresh<=4096;omega,hfs:=hfs }
    have hP:PassM c E fresh [] []:=by
     subst L;exact⟨⟨h8,h9,h5,k0⟩,U,ko,kn,o1,o2,Mp.new kR,Mp.new kL,a6.no⟩
    have hT:OldT c (ahead ts):=by subst L;exact⟨o3,o4⟩
    have hH:Here c (ahead ts) 0 Aud.zrow true (ahead ts):=by
     subst L;exact⟨om,row0,l7,l8,l9,Pos.root _,fun _ _=>jK _⟩
    have t4:rdO prog 3 E w.heap.size 4=some (.int .i64 (r.root:Nat)):=rd1 agg3 k rfl;have t5:rdO prog 3 E w.heap.size 5=some (.int .i64 (r.count:Nat)):=rd1 agg3 k rfl;have t6:∀ W:World,W.heap[w.heap.size]?=some (.cells (rcC r).toArray 80 (0,0))->rdO prog 75 W w.heap.size 6=some (dg r.sum):=fun W k=>qJw (e:=80) (fz:=(0,0)) (a:=[.int .i64 (r.ver:Nat),.int .i64 (r.first:Nat),.int .i64 (r.prev:Nat),.int .i64 (r.skip:Nat),.int .i64 (r.root:Nat),.int .i64 (r.count:Nat)]) (m:=r.sum.map u8) (r:=[]) agg75 (by simp[b5];exact sz75) (by simp[b5]) (by rw[k,rcC,zO]) rfl;unfold root1;generalize M:(if r.root=0 then (if r.sum=emptD s.width 256 then .ok (.nil,fresh) else .error (p,171)) else thr s.width (pnOf pg) fresh (r.root+1) 0 true (ahead ts) Aud.zrow r.root p r.count r.sum fresh:Except (Nat × Int) (PT × Nat))=g1;refine qZk (fun A R=>∃ t m rows lvs,g1=.ok (t,m)/\A 0=pt sb 0/\A 5=.int .i64 (p:Nat)/\A 9=pt H 0/\PassM c R m rows lvs/\RowsIn 0 Aud.zrow t [] rows/\LvsIn t [] lvs/\Fr (PaB c) E R) ?_ ?_
    ·have nz:((r.root:Int) == 0)=decide (r.root=0):=nateq r.root 0
     by_cases hz:r.root=0
     ·rw[decide_eq_true hz]at nz
      rw[if_pos hz]at M;simp only[go_sem,jY,e6,t4,nz];refine qXg (Q:=fun e A R=>e=.normal/\A 0=pt sb 0/\A 5=.int .i64 (p:Nat)/\A 9=pt H 0/\A 109=.bool (!(r.sum == emptD s.width 256))/\PassM c R fresh [] []/\Fr (PaB c) E R) _ (fun e A R=>?_) ?_
      ·rintro⟨rfl,O,e5,T,N,k4,f6⟩
       rw[thenQ_normal]
       by_cases hsum:r.sum=emptD s.width 256
       ·rw[beq_iff_eq.2 hsum]at N
        have N:A 109=.bool false:=N;rw[if_pos hsum]at M;simp only[go_sem,N];exact⟨.nil,fresh,[],[],M.symm,O,e5,T,k4,RowsIn.nil 0 Aud.zrow [],LvsIn.nil [],f6⟩
       ·rw[beq_eq_false_iff_ne.2 hsum]at N
        have N:A 109=.bool true:=N;rw[if_neg hsum]at M;simp only[go_sem,yJ,N,O,e5];have k5:=k4.find hk p 171;have c0:c.sb=sb:=by subst L;rfl
        rw[c0]at k5;refine qQa pl44 (k5.mono ?_);rintro _ w9 ⟨rfl,T⟩;simp only[go_sem];rw[<- M];subst L;exact⟨rfl,T⟩
      ·refine qXl (fun _=>false) (.one 0 (.one 2 (.two 1 (.row [3,4]) 3 (.row [1,4])))) rfl x8 x8 ?_
       have d2:=hP.drew;have k1:E.drew.heap[w.heap.size]?=_:=k;have fd:Fr (PaB c) E E.drew:=(Fr.refl _ _).drew;generalize E.drew=I at *;obtain⟨n9,t7,p0,_,p1⟩:=d2.srow;have c0:c.sb=sb:=by subst L;rfl
       have p2:c.s.width=s.width:=by subst L;rfl
       have a9:=bareS (hk.tabs.fr d2.no fun _ _ h=>h) d2.no.size (kD hk.tabs.size hk.hsb) p1 (fun _ h=>h.elim) (h:=256) om;rw[c0,p2]at a9;have r1:=t6 I k1;have es:=eqDig b5 (qQv s.width 256);have p3:sb<w.heap.size:=qQh h.row
       have b3:∀ {R},Fr (fun b=>b=sb) I R->SRow c.u R sb c.iv c.s c.mn c.mr c.cv c.vv n9 (fun _=>False)->PassM c R fresh [] []/\Fr (PaB c) E R/\R.heap[w.heap.size]?=some (.cells (rcC r).toArray 80 (0,0)):=fun {R} f6 b4=>by
        rw[<- c0]at f6 b4;exact⟨d2.dig hk p0 f6 b4,fd.trans (f6.mono fun _ _ e=>.inl e),f6.at k1 fun e=>by rw[c0]at e;omega⟩
       simp only[go_sem,yJ,jY,OT.row,O,e6,r1];refine⟨?_,?_⟩
       ·refine qQe pl125 (a9.mono ?_);rintro _ R ⟨rfl,f6,b4⟩
        refine⟨(fun h=>by cases h),?_⟩;obtain⟨a,b,k6⟩:=b3 f6 b4;have r6:=t6 R k6;simp only[go_sem,yJ,es,eqg75];exact⟨by trivial,by trivial,by trivial,a,b⟩
       ·refine qQe pl125 (a9.mono ?_);rintro _ R ⟨rfl,f6,b4⟩
        refine⟨(fun h=>by cases h),?_⟩;obtain⟨a,b,k6⟩:=b3 f6 b4;have r6:=t6 R k6;simp only[go_sem,yJ,r6,es,eqg75];exact⟨by trivial,by trivial,by trivial,a,b⟩
     ·rw[decide_eq_false hz]at nz
      rw[if_neg hz]at M;have bs:=bldSt (page:=r.root) (by':=p) (count:=r.count) b5;have bz:bldO prog 158 []=some (.agg (rwC 0 Aud.zrow).toArray):=by unfold bldO;rw[zero158,places158];kernel_rfl
      have t6:=t6 E k;simp only[go_sem,yJ,jY,e5,e6,T,t4,t5,t6,nz,bs,bz];rw[thr_fuel (g:=257) (.inl om) om om]at M;have k7:=through hk hT 257 0 rfl r.root p r.count hP hH (by subst L;exact xC _) om b5;have p4:c.pb=H:=by subst L;rfl
      have p5:thr c.s.width (ndsP c.pg) c.fresh 257 0 true (ahead ts) Aud.zrow r.root p r.count r.sum fresh=g1:=by subst L;exact M
      rw[p4,p5]at k7;refine qQa pl126 (k7.mono ?_);rintro x R hq
      cases g1 with
      | error e =>
       obtain⟨rfl,hq⟩:=hq;simp only[go_sem,xH];subst L;exact⟨rfl,hq⟩
      | ok y =>
       obtain⟨t,m⟩:=y;obtain⟨rfl,f6,g2,k9,h6,rr,ll⟩:=hq;simp only[go_sem,yJ,vK];exact⟨t,m,g2,k9,rfl,by trivial,by trivial,by trivial,h6,rr,ll,f6⟩
    clear O x1 e5 e6 T hP;rintro A R ⟨t,m,rows,lvs,rfl,O,e5,T,hP,rr,ll,f6⟩;subst L;have rn:rdO prog 3 R H 4=some (.int .i64 (m:Nat)):=rd1 agg3 hP.pass rfl;have nm:=natne m p
    by_cases hm:m=p
    case neg =>
     rw[decide_eq_true hm]at nm;simp only[go_sem,yJ,jY,O,e5,T,rn,nm];refine qQa pl44 ((hP.find hk m 172).mono ?_);rintro _ w9 ⟨rfl,T⟩;simp only[go_sem];rw[if_neg hm];exact⟨rfl,T⟩
    rw[decide_eq_false fun e=>e hm]at nm;simp only[go_sem,yJ,jY,e5,T,rn,nm];refine qXl (fun j=>j == 9) (.row [0,1,2,3,5,6,7,4,8,9,10,11,12,13]) rfl x8 x8 ?_;obtain⟨ps,d1,b7,d8⟩:=id hL.vs;have p3:sb<w.heap.size:=qQh h.row;have fA:Fr (fun b=>b=sb∨w.heap.size<=b) w R.drew:=((f.mono fun _ _ h=>h.elim).trans (f6.mono fun b _ e=>by rcases e with e | e | e | e;exact .inl e;exact .inr (by have:b=H:=e;omega);exact .inr (by have:b=nR:=e;omega);exact .inr (by have:b=nL:=e;omega))).drew;have hP:=hP.drew;generalize R.drew=I at *;have d5:∀ b,qQc vv=some b->∃ cs,w.heap[b]?=some (.cells cs 156 (0,0)):=fun b B=>qXa d1 B
    have d3:NwR u I 156 1 vv (ps.map fun b=>[pt b 0]):=d1.fr fA fun b B e=>by
     obtain⟨cs,hc⟩:=d5 b B
     rcases e with rfl | e
     ·rw[h.row]at hc;cases hc
     ·have:=qQh hc;omega
    have p6:∀ (j b:Nat) (t:PT),ps[j]?=some b->ts[j]?=some t->ShM u I b t:=fun j b t h1 h2=>(d8 j b t h1 h2).fr fA (fun b c B e=>by rcases e with rfl | e;rw[h.row]at B;cases B;have:=qQh B;omega) fun b es n B e=>by rcases e with rfl | e;rw[h.row]at B;cases B;have:=qQh B;omega
    obtain⟨c5,c6,h6,p7⟩:=hP.sg;have d6:I.heap[Z]?=some (.cells #[.map (some nR),.map (some nL)] 155 (0,0)):=hP.now;have l0:No u I:=hP.no;have rv:rdO prog 70 I sb 9=some vv:=rd1 agg70 h6.row rfl;have p8:rdO prog 156 I H 2=some (pt Z 0):=rd1 agg156 hP.pass rfl;have J:(ps.map fun b=>[pt b 0]).length=ts.length:=by rw[zB];exact b7
    obtain⟨v8,w8,p9,b8,g8,m8⟩:=d3.push (P:=prog) app70_70 (xs:=[pt Z 0]) rfl rfl x9 (by rw[J];omega) (by rw[J];omega) hP.no.size;simp only[go_sem,yJ,yY,yN,jY,OT.row,O,T,rv,p8];refine contOT_is (v:=.slice (some ⟨I.heap.size,0,none⟩) 1 1) (w':=I.alloc (.cells #[pt Z 0] 156)) (qXb (K:=1) x9 x9 (y:=[.pointer none]) rfl rfl rfl _) (fun _=>((Fr.refl (fun _=>False) _).alloc _).ext) ?_;simp only[go_sem,yJ];refine qZm ⟨v8,w8,p9,?_⟩;refine⟨(fun h=>by cases h),?_⟩
    have l5:∀ b,qQc vv=some b->b≠sb:=fun b B e=>by
     obtain⟨cs,hc⟩:=d5 b B;subst e;rw[h.row]at hc;cases hc
    have k8:=g8.at h6.row fun B=>l5 _ B rfl;have o8:one v8=true:=by obtain⟨a,cc,e,_⟩:=b8.rd.slice;rw[e];rfl
    have q8:=wr1 (P:=prog) (t:=70) (o:=9) (v:=v8) sz70 o8 k8 (show 9<12 by decide);simp only[go_sem,yJ,yY,jY,q8];show VsR u sb iv im s mn mr cv vv nl rl pg fs ts (if m=p then Except.ok t else Except.error (m,172)) _ _;rw[if_pos hm];have f8:Fr (fun b=>b=sb∨qQc vv=some b) I (put w8 sb (.cells ((sgC iv s mn mr cv vv c5 c6).setIfInBounds 9 v8) 73 (0,0))):=(g8.mono (G:=fun b=>b=sb∨qQc vv=some b) fun b _ B=>.inr B).put (b:=sb) _ fun _=>.inl rfl;have q0:=qQd (o:=.cells ((sgC iv s mn mr cv vv c5 c6).setIfInBounds 9 v8) 73 (0,0)) k8;have q1:Fr (fun b=>b=sb) w8 (put w8 sb (.cells ((sgC iv s mn mr cv vv c5 c6).setIfInBounds 9 v8) 73 (0,0))):=(Fr.refl _ _).put (b:=sb) _ fun _=>rfl
    have q2:∀ b,qQc v8=some b->b≠sb:=fun b B e=>by
     rcases m8 b B with h' | h'
     ·exact l5 b h' e
     ·have hx:sb<I.heap.size:=qQh h6.row;omega
    generalize put w8 sb (.cells ((sgC iv s mn mr cv vv c5 c6).setIfInBounds 9 v8) 73 (0,0))=W9 at *
    have b0:∀ b cs el,I.heap[b]?=some (.cells cs el (0,0))->(b=sb∨qQc vv=some b)->el=73∨el=156:=fun b cs el B e=>by
     rcases e with rfl | e
     ·rw[h6.row]at B;cases B;exact .inl rfl
     ·obtain⟨q3,c7⟩:=qXa d3 e;rw[B]at c7;cases c7;exact .inr rfl
    have a8:∀ b es n,I.heap[b]?=some (.map es n)->¬ (b=sb∨qQc vv=some b):=fun b es n B e=>by
     rcases e with rfl | e
     ·rw[h6.row]at B;cases B
     ·obtain⟨q3,c7⟩:=qXa d3 e;rw[B]at c7;cases c7
    have l6:∀ b,(b=sb∨qQc vv=some b)->u.heap.size<=b:=fun b e=>by
     rcases e with rfl | e
     ·exact ho.hsb
     ·exact (d3.lt e).1
    obtain⟨_,_,y1,_⟩:=id h6.nds;obtain⟨_,_,y2,_⟩:=id h6.rcs;obtain⟨_,_,y3,_⟩:=id hP.nowR;obtain⟨_,_,y4,_⟩:=id hP.nowL;refine⟨rfl,v8,⟨c5,c6,h6.fr f8 l6 ho.hiv ⟨a8 _ _ _ y1,a8 _ _ _ y2⟩ (fun b cs el B e=>?_) q0 o8 h6.ob,p7.fr f8 fun b cs B _ _ e=>?_⟩,l0.trans' f8 (fun b B e=>absurd B (Nat.not_lt.2 (l6 b e))),ps++[Z],?_,?_,?_⟩
    ·rcases b0 b cs el B e with rfl | rfl <;> exact⟨x9,x9,x9⟩
    ·rcases b0 b cs _ B e with h' | h' <;> exact absurd h' x9
    ·rw[List.map_append]
     exact b8.fr q1 q2
    ·rw[lAp,lAp,b7];rfl
    ·intro j b t' d4 c8
     by_cases hj:j<ts.length
     ·rw[List.getElem?_append_left om]at d4 c8
      exact (p6 j b t' d4 c8).fr f8 (fun b cs B e=>by rcases b0 b cs _ B e with h' | h' <;> exact absurd h' x9) fun b es n B=>a8 b es n B
     ·have q4:j=ts.length:=by
       have:=List.getElem?_eq_some_iff.1 c8;obtain⟨q5,_⟩:=this;rw[lAp]at q5;have:[t].length=1:=rfl;omega
      subst q4;rw[<- b7,z4 (xC _),kP]at d4;rw[z4 (xC _),kP]at c8;cases d4;cases c8;refine⟨nR,nL,rows,lvs,f8.at d6 (fun e=>by rcases b0 _ _ _ d6 e with h' | h' <;> exact absurd h' x9),kD hu ln,kD hu lR,kD hu lL,hP.nowR.fr f8 (a8 _ _ _ y3),hP.nowL.fr f8 (a8 _ _ _ y4),fun key=>?_,fun key=>?_⟩
      ·rw[rr key];cases enP (Aud.rowAt 0 Aud.zrow t key) <;> rfl
      ·rw[ll key];cases enP (lfAt t key) <;> rfl
   ·simp only[go_sem,Y]
  ·obtain⟨O,x1,e5,e7,e6,k,f⟩:=hV
   refine qXl (fun j=>j == 16 || j == 27) (.row [0,2,1,3,4,5,7,6,8,9,10,11,13,14,15,12,16,17,18,19,20,22,23,24,25,26,21,27,28,29]) rfl x8 x8 ?_;have f:=f.drew;have k:w1.drew.heap[w.heap.size]?=_:=k;generalize w1.drew=I at *;have hs:=h.fr0 f;have r0:rdO prog 3 I w.heap.size 0=some (.int .i64 (r.ver:Nat)):=rd1 agg3 k rfl;have r1:rdO prog 3 I w.heap.size 1=some (.int .i64 (r.first:Nat)):=rd1 agg3 k rfl;have r2:rdO prog 3 I w.heap.size 2=some (.int .i64 (r.prev:Nat)):=rd1 agg3 k rfl;have r3:rdO prog 3 I w.heap.size 3=some (.int .i64 (r.skip:Nat)):=rd1 agg3 k rfl;have n1:=natne r.first first;have n2:=natne r.ver num;have n3:=natne r.prev (chAt ch (i - 1));have n4:=natne r.skip (chAt ch (far i));have wi:IntKind.i64.wrap ((i:Int) - 1)=((i - 1:Nat):Int):=qXr (b:=1) om om
   obtain⟨y,hy⟩:∃ y,andK .i64 (i:Int) ((i - 1:Nat):Int)=y:=⟨_,rfl⟩
   have q6:y=((far i:Nat):Int):=hy.symm.trans (and64 _ _ om om);have done:∀ b:Bool,(b=!decide (r.first=first/\r.ver=num/\r.prev=chAt ch (i - 1)/\r.skip=chAt ch (far i)))->True:=fun _ _=>trivial
   by_cases c1:r.first=first
   case neg =>
    rw[decide_eq_true c1]at n1;simp only[go_sem,yJ,yY,qZj,jY,OT.row,e6,e7,r1,n1];exact⟨⟨by trivial,by trivial,by trivial,by trivial,by trivial,k,f⟩,by rw[decide_eq_false fun h=>c1 h.1];rfl⟩
   rw[decide_eq_false fun e=>e c1]at n1
   by_cases c2:r.ver=num
   case neg =>
    rw[decide_eq_true c2]at n2;simp only[go_sem,yJ,yY,bSe,qZj,jY,OT.row,e6,e7,e8,r1,n1,r0,n2];exact⟨⟨by trivial,by trivial,by trivial,by trivial,by trivial,k,f⟩,by rw[decide_eq_false fun h=>c2 h.2.1];rfl⟩
   rw[decide_eq_false fun e=>e c2]at n2;simp only[go_sem,yJ,yY,bSe,jY,OT.row,O,x1,e6,e7,e8,r1,n1,r0,n2,r2,wi];refine qQe pl66 ((qKy hs (i:=i - 1) om).mono ?_);rintro _ E ⟨b6,rfl⟩;rw[b6,V];refine⟨fun _=>(Fr.refl (fun _=>False) _).ext,?_⟩
   by_cases c3:r.prev=chAt ch (i - 1)
   case neg =>
    rw[decide_eq_true c3]at n3;simp only[go_sem,yJ,yY,bSe,qZj,n3];exact⟨⟨by trivial,by trivial,by trivial,by trivial,by trivial,k,f⟩,by rw[decide_eq_false fun h=>c3 h.2.2.1];rfl⟩
   rw[decide_eq_false fun e=>e c3]at n3;simp only[go_sem,yJ,yY,bSe,jY,O,x1,e6,n3,wi,hy,r3];rw[q6];refine qQe pl66 ((qKy hs (i:=far i) (by have:far i<=i:=Nat.and_le_left;omega)).mono ?_);rintro _ E ⟨b6,rfl⟩;rw[b6,V];refine⟨fun _=>(Fr.refl (fun _=>False) _).ext,?_⟩
   by_cases c4:r.skip=chAt ch (far i)
   ·rw[decide_eq_false fun e=>e c4]at n4
    simp only[go_sem,yJ,yY,bSe,n4];exact⟨⟨by trivial,by trivial,by trivial,by trivial,by trivial,k,f⟩,by rw[decide_eq_true ⟨c1,c2,c3,c4⟩];rfl⟩
   ·rw[decide_eq_true c4]at n4
    simp only[go_sem,yJ,yY,bSe,n4];exact⟨⟨by trivial,by trivial,by trivial,by trivial,by trivial,k,f⟩,by rw[decide_eq_false fun h=>c4 h.2.2.2];rfl⟩
 ·refine qXl (fun j=>j == 11 || j == 14) (.one 0 (.one 1 (.one 2 (.one 4 (.one 6 (.one 7 (.one 8 (.one 10 (.one 3 (.one 5 (.tri 9 (.two 11 (.two 12 (.row [13,14,15,16]) 14 (.two 12 (.row [13,15,16]) 15 (.row [12,13,16]))) 14 (.one 11 (.two 12 (.row [13,15,16]) 15 (.row [12,13,16])))) 11 (.two 9 (.two 12 (.row [13,14,15,16]) 14 (.two 12 (.row [13,15,16]) 15 (.row [12,13,16]))) 14 (.two 9 (.two 12 (.row [13,15,16]) 15 (.row [12,13,16])) 15 (.row [9,12,13,16]))) 14 (.two 9 (.one 11 (.two 12 (.row [13,15,16]) 15 (.row [12,13,16]))) 11 (.two 9 (.two 12 (.row [13,15,16]) 15 (.row [12,13,16])) 15 (.row [9,12,13,16])))))))))))))) rfl x8 x8 ?_
  have h1:=h.fr0 (Fr.refl _ _).drew;have s1:w.drew.heap.size=w.heap.size:=rfl;have f1:No w w.drew:=(Fr.refl _ _).drew;generalize w.drew=I at *;have r0:rdO prog 69 I sb 7=some (.map (some mr)):=rd1 agg69 h1.row rfl;obtain⟨ok,lk⟩:=rec_look h1 ho (chAt ch i);obtain⟨W2,g3,f2,k2,s2⟩:=qQl I (rcC rc00).toArray 80;have rl:(rcC (rcAt pg (chAt ch i))).length=38:=qXn (rcAt_len ho _);have h2:=h1.fr0 f2;have q:wrO prog 80 W2 I.heap.size 0 (.agg (rcC (rcAt pg (chAt ch i))).toArray)=some (put W2 I.heap.size (.cells (rcC (rcAt pg (chAt ch i))).toArray 80 (0,0))):=qQr (by simp[rl];exact sz80) k2 (by simp[rl,qXn (r:=rc00) z32l]) (by simpa using rcC_one _);have f3:=f2.put (b:=I.heap.size) (.cells (rcC (rcAt pg (chAt ch i))).toArray 80 (0,0)) fun h=>by omega
  have h3:=h1.fr0 f3;have k3:=qQd (o:=.cells (rcC (rcAt pg (chAt ch i))).toArray 80 (0,0)) k2;generalize hB:put W2 I.heap.size (.cells (rcC (rcAt pg (chAt ch i))).toArray 80 (0,0))=W3 at *;have r2:rdO prog 69 W2 sb 7=some (.map (some mr)):=rd1 agg69 h2.row rfl;have r3:rdO prog 69 W3 sb 7=some (.map (some mr)):=rd1 agg69 h3.row rfl;obtain⟨t8,l1⟩:=rec_look h1 ho (chAt ch 1);obtain⟨t9,l2⟩:=rec_look h2 ho (chAt ch 1);obtain⟨u0,l3⟩:=rec_look h3 ho (chAt ch 1);obtain⟨u1,l4⟩:=rec_look h2 ho (chAt ch i);have fe:partO prog 3 (rcC (rcAt pg (chAt ch 1))).toArray 1=some (.int .i64 ((rcAt pg (chAt ch 1)).first:Nat)):=by rw[qKh agg3];rfl
  have e2:=f2.ext;have hz:=rcZero
  have b3:V2 w sb i (chAt ch i) (rcAt pg (chAt ch 1)).first (rcAt pg (chAt ch i)) (pt sb 0) (.int .i64 (i:Nat)) (.int .i64 (chAt ch i:Nat)) (pt I.heap.size 0) (.int .i64 ((rcAt pg (chAt ch 1)).first:Nat)) W3:=⟨rfl,rfl,rfl,rfl,by rw[s1],by rw[<- s1];exact k3,f1.trans f3⟩
  simp only[go_sem,yJ,yY,yN,bSe,jY,qQk,OT.row,r0,r2,lk,hz,g3,e2,implies_true,true_and]
  repeat' (first
   | (refine qQe pl66 ((qKy h1 (i:=1) om).mono ?_);rintro _ wx ⟨ex,rfl⟩;rw[ex,V];refine And.intro (fun _=>(Fr.refl (fun _=>False) _).ext) ?_;simp only[go_sem,yJ,yY,yN,bSe,qQk,r0,r2,r3,l1,l2,l3,fe,hz,g3,q,e2,implies_true,and_self,b3])
   | (refine qQe pl66 ((qKy h2 (i:=1) om).mono ?_);rintro _ wx ⟨ex,rfl⟩;rw[ex,V];refine And.intro (fun _=>(Fr.refl (fun _=>False) _).ext) ?_;simp only[go_sem,yJ,yY,r2,r3,l2,l3,fe,q,implies_true,and_self,b3])
   | (refine qQe pl66 ((qKy h3 (i:=1) om).mono ?_);rintro _ wx ⟨ex,rfl⟩;rw[ex,V];refine And.intro (fun _=>(Fr.refl (fun _=>False) _).ext) ?_;simp only[go_sem,yJ,yY,vH,yN,bSe,bNe,qQx,qZj,vK,xH,jY,Nat.add_zero,qQk,OT.row,r0,r2,r3,lk,l1,l2,l3,l4,fe,hz,g3,q,e2,implies_true,true_and,and_self,b3])
   | (refine And.intro ?_ ?_))
end
end A
end
section
namespace A
open Aud
section
variable {u w w':World} {sb:Nat} {iv:Value} {im:Bs} {s:Sup} {mn mr:Nat} {cv vv fv bv:Value} {nl rl:List (Nat × Value)} {pg:Nat->Option Pg} {k:Nat} {fs:List (Nat × Int)} {ts:List PT}
theorem ndOk' (B:LkOk u sb iv s pg):NdOk (pnOf pg):=fun p nd h=>by
 obtain⟨E,A⟩:=B.hnd p nd (qJt.1 h);refine⟨E,?_⟩
 cases nd with
 | leaf k v=>exact A.1
 | br H I lc rc J rs =>
  obtain⟨⟨a,b,_,d,_⟩,_⟩:=A;refine⟨d,fun e=>?_,fun e=>?_⟩
  ·unfold chR at a;rw[if_pos e]at a;exact a
  ·unfold chR at b;rw[if_pos e]at b;exact b
theorem rc_first (B:LkOk u sb iv s pg)(p:Nat):(rcAt pg p).first<=2 ^ 30/\((rcAt pg p).root=0->(rcAt pg p).count=0):=by
 unfold rcAt;split
 ·rename_i r h
  obtain⟨_,A,_⟩:=B.hrc _ _ h;refine⟨A.1,fun E=>?_⟩
  rcases A.2.2.2.1 with h | h
  ·exact h.2
  ·exact absurd E h.1
 ·exact⟨jK _,fun _=>rfl⟩
theorem chAt_in (E:LkOk u sb iv s pg)(hi:1<=i)(H:i<=(chK pg s.mark).length):2<=chAt (chK pg s.mark) i:=by
 unfold chAt;rw[if_neg om];have A:i - 1<(chK pg s.mark).length:=om
 rw[gDq,xE A];show 2<=(chK pg s.mark)[i - 1];have B:=List.getElem_mem A;generalize (chK pg s.mark)[i - 1]=x at B;unfold chK at B;have:=(List.mem_filter.1 B).2;unfold isRc at this;split at this
 ·rename_i r h;exact (E.hrc _ _ h).1
 ·cases this
theorem chK_len (pg:Nat->Option Pg)(k:Nat):(chK pg k).length<=k:=by unfold chK;exact kD (List.length_filter_le _ _) sm
def AhOk (s:Sup)(pg:Nat->Option Pg)(i:Nat)(o:PT):Prop:=o.Wf 0/\Stands (dgT s.width) (pnOf pg) 0 o/\o.page<max 1 (chAt (chK pg s.mark) i)+1
theorem ahead_next (B:LkOk u sb iv s pg)(E:i<(chK pg s.mark).length){o t:PT}(h:AhOk s pg i o)(A:verP s.width pg (chK pg s.mark) (i+1) o=.ok t):AhOk s pg (i+1) t:=by
 unfold verP at A;split at A
 ·rw[Nat.add_sub_cancel]at A
  have H:=chAt_in B (i:=i+1) om om;have g:=root1_ok (ndOk' B) h.1 h.2.1 h.2.2 (rc_first B _).2 om A;exact⟨g.1,g.2.1,by have:=g.2.2.2.2.2.2.2;omega⟩
 ·cases A
def trsP (wd:Int)(pg:Nat->Option Pg)(ch:List Nat)(k:Nat):List PT:=(List.range k).map fun j=>trP wd pg ch (j+1)
theorem trsP_succ (wd:Int)(pg:Nat->Option Pg)(ch:List Nat)(k:Nat):trsP wd pg ch (k+1)=trsP wd pg ch k++[trP wd pg ch (k+1)]:=by unfold trsP;rw[List.range_succ,List.map_append];rfl
theorem ahead_tr (wd:Int)(pg:Nat->Option Pg)(ch:List Nat)(k:Nat):ahead (trsP wd pg ch k)=trP wd pg ch k:=by
 cases k with
 | zero=>rfl
 | succ k=>rw[trsP_succ];unfold ahead;simp
def WhR (u:World)(sb:Nat)(iv:Value)(im:Bs)(s:Sup)(mn mr:Nat)(cv:Value)(nl rl:List (Nat × Value))(pg:Nat->Option Pg)(fs:List (Nat × Int))(r:Except (Nat × Int) Unit)(w:World):Prop :=
 ∃ vv,ErrL u sb iv im s mn mr cv vv nl rl pg (match r with | .ok _=>fs | .error e=>fs++[e]) w/\(r=.ok ()->VsM u w vv (trsP s.width pg (chK pg s.mark) (chK pg s.mark).length))
def whI (u:World)(sb:Nat)(iv:Value)(im:Bs)(s:Sup)(mn mr:Nat)(cv:Value)(nl rl:List (Nat × Value))(pg:Nat->Option Pg)(fs:List (Nat × Int))(R:Except (Nat × Int) Unit)(n:Nat)(vs:List Value)(w:World):Prop :=
 ∃ (i:Nat) (vv:Value) (ts:List PT),vs=[pt sb 0,.int .i64 ((chK pg s.mark).length:Nat),.int .i64 (i:Nat)]/\i<=(chK pg s.mark).length/\n=(chK pg s.mark).length - i/\LkM u w sb iv im s mn mr cv vv nl rl pg fs ts/\ts.length=i/\versP s.width pg (chK pg s.mark) ((chK pg s.mark).length - i) (i+1) (ahead ts)=R/\AhOk s pg i (ahead ts)/\ts=trsP s.width pg (chK pg s.mark) i
theorem whole (M:LkM u w sb iv im s mn mr cv vv nl rl pg fs [])(N:LkOk u sb iv s pg)(hfs:fs.length<=2 ^ 20) :
  Fn prog 45 #[pt sb 0] w fun v w'=>v=.tuple #[]/\WhR u sb iv im s mn mr cv nl rl pg fs (wholeP s.width pg (chK pg s.mark) s.mark s.head) w':=by
 refine go45 sm ?_;obtain⟨fv,bv,h,b0⟩:=M.sg;obtain⟨a,cap,O,Y⟩:=h.chn.rd.slice;rw[qVk]at O Y;have b1:=chK_len pg s.mark;have b3:=N.hm;generalize A:chK pg s.mark=ch at *;have V:rdO prog 45 w sb 8=some (.slice a ch.length cap):=by rw[<- O];exact rd1 agg45 h.row rfl
 simp -implicitDefEqProofs only[go_sem,jY,Tryz.f45,V];generalize hR:versP s.width pg ch ch.length 1 .nil=R;refine loopD [0,8,9] (whI u sb iv im s mn mr cv nl rl pg fs R) ch.length ⟨0,vv,[],by rw[A];rfl,om,by rw[A];rfl,M,rfl,by rw[A,<- hR];rfl,⟨trivial,trivial,?_⟩,rfl⟩ ?_
 ·show 0<_;omega
 rintro _ vs w g ⟨i,vv,ts,rfl,hi,rfl,M,a0,H,I,T⟩;rw[A]at hi H ⊢
 by_cases a3:i<ch.length
 ·have d1:=dTo ((i:Int)<(ch.length:Int))
  have c1:=iSu (i:=i);simp -implicitDefEqProofs only[go_sem,yJ,d1,c1];refine qQa pl82 ((version M N hfs (i:=i+1) om om (rc_first N _).1 I.1 I.2.1 (by rw[Nat.add_sub_cancel];exact I.2.2)).mono ?_);rintro x w5 U;rw[A]at U;rw[show ch.length - i=(ch.length - (i+1))+1 by omega]at H;unfold versP at H
  cases E:verP s.width pg ch (i+1) (ahead ts) with
  | error e =>
   rw[E]at U H;obtain⟨rfl,U⟩:=U;simp -implicitDefEqProofs only[go_sem,xH];have hw:wholeP s.width pg ch s.mark s.head=.error e:=by unfold wholeP;rw[hR,<- H]
   rw[hw];exact⟨vv,U,fun h=>by cases h⟩
  | ok t =>
   rw[E]at U H;obtain⟨rfl,a4,a5⟩:=U;simp -implicitDefEqProofs only[go_sem,yJ,vK,c1];refine⟨ch.length - (i+1),om,i+1,a4,ts++[t],by rw[A],by rw[A];omega,by rw[A],a5,by rw[lAp,a0];rfl,?_,?_,?_⟩
   ·rw[A]
    have:ahead (ts++[t])=t:=by unfold ahead;simp
    rw[this];exact H
   ·have:ahead (ts++[t])=t:=by unfold ahead;simp
    rw[this];exact ahead_next N (by rw[A];exact a3) I (by rw[A];exact E)
   ·rw[T,ahead_tr,A]at E
    rw[trsP_succ,A,trP_ok E,T,A]
 ·have a6:i=ch.length:=om
  subst a6;have d1:=dFo ((ch.length:Int)<(ch.length:Int));rw[kP]at H;have a7:R=.ok ():=H.symm;subst a7;obtain⟨b4,b5,h5,b6⟩:=M.sg
  have hE:ErrL u sb iv im s mn mr cv vv nl rl pg fs w:=⟨M.no,M.sg⟩
  have Z:VsM u w vv (trsP s.width pg ch ch.length):=by have hx:=M.vs;rw[T,A]at hx;exact hx
  unfold WhR;rw[A];have V:rdO prog 45 w sb 8=some (.slice a ch.length cap):=by rw[<- O];exact rd1 agg45 h5.row rfl
  have r3:rdO prog 3 w sb 3=some (.int .i64 (s.mark:Nat)):=rd1 agg3 h5.row rfl;have r4:rdO prog 3 w sb 4=some (.int .i64 (s.head:Nat)):=rd1 agg3 h5.row rfl;simp -implicitDefEqProofs only[go_sem,yJ,jY,d1,V];refine qQa pl66 ((qKy h5 (i:=ch.length) om).mono ?_);rintro _ w5 ⟨a8,rfl⟩;rw[a8,A];have J:=maxOne (chAt ch ch.length);have b7:chAt ch ch.length<4096:=by rw[<- A];exact chAt_lt N _
  generalize a9:max 1 (chAt ch ch.length)=B at *
  have hw:wholeP s.width pg ch s.mark s.head=if B+1<s.mark then .error (B+1,172) else if 0<ch.length/\s.head≠B then .error (B,173) else .ok ():=by
   unfold wholeP;rw[hR,a9]
  rw[hw];have c1:=iSu (i:=B);have W:=natlt (B+1) s.mark
  by_cases L:B+1<s.mark
  ·rw[decide_eq_true L]at W
   simp -implicitDefEqProofs only[go_sem,yJ,vH,jY,J,c1,r3,W];refine qQa pl44 ((errFind hE N hfs (B+1) 172).mono ?_);rintro _ w9 ⟨rfl,e9⟩;simp -implicitDefEqProofs only[go_sem];rw[if_pos L];exact⟨vv,e9,fun h=>by cases h⟩
  ·rw[decide_eq_false L]at W
   rw[if_neg L];have l2:decide ((ch.length:Int) > 0)=decide (0<ch.length):=natlt 0 ch.length;have n4:=natne s.head B
   by_cases h0:0<ch.length
   ·rw[decide_eq_true h0]at l2
    by_cases hh:s.head=B
    ·rw[decide_eq_false fun e=>e hh]at n4
     simp -implicitDefEqProofs only[go_sem,yJ,vH,bSe,jY,J,c1,r3,W,V,l2,r4,n4];rw[if_neg fun h=>h.2 hh];exact⟨vv,hE,fun _=>Z⟩
    ·rw[decide_eq_true hh]at n4
     simp -implicitDefEqProofs only[go_sem,yJ,vH,bSe,jY,J,c1,r3,W,V,l2,r4,n4];refine qQa pl44 ((errFind hE N hfs B 173).mono ?_);rintro _ w9 ⟨rfl,e9⟩;simp -implicitDefEqProofs only[go_sem];rw[if_pos ⟨h0,hh⟩];exact⟨vv,e9,fun h=>by cases h⟩
   ·rw[decide_eq_false h0]at l2
    simp -implicitDefEqProofs only[go_sem,yJ,vH,qQx,jY,J,c1,r3,W,V,l2];rw[if_neg fun h=>h0 h.1];exact⟨vv,hE,fun _=>Z⟩
end
end A
end
section
namespace A
open Aud
abbrev nS:Value:=.slice none 0 0
abbrev sup00:Sup:=⟨0,0,0,0,0⟩
theorem bldSight (im:Option Addr)(n c:Nat)(x y:Nat):bldO prog 73 [(0,.slice im n c),(2,.map (some x)),(3,.map (some y))]=some (.agg (sgC (.slice im n c) sup00 x y nS nS nS nS)):=by
 unfold bldO;rw[zero73,places73];rfl
theorem allocS (w:World)(c:Array Value):∃ W,((w.alloc (.map #[] 0)).alloc (.map #[] 0)).alloc (.cells c 73)=W/\No w W/\W.heap[w.heap.size]?=some (.map #[] 0)/\W.heap[w.heap.size+1]?=some (.map #[] 0)/\W.heap[w.heap.size+2]?=some (.cells c 73 (0,0))/\W.heap.size=w.heap.size+3:=by
 have L:No w (w.alloc (.map #[] 0)):=(Fr.refl _ _).alloc _;have M:(w.alloc (.map #[] 0)).heap[w.heap.size]?=some (.map #[] 0):=qQb _ _;have N:(w.alloc (.map #[] 0)).heap.size=w.heap.size+1:=qQf _ _;generalize w.alloc (.map #[] 0)=A at *;have E:No A (A.alloc (.map #[] 0)):=(Fr.refl _ _).alloc _;have H:(A.alloc (.map #[] 0)).heap[A.heap.size]?=some (.map #[] 0):=qQb _ _;have U:(A.alloc (.map #[] 0)).heap.size=A.heap.size+1:=qQf _ _;generalize A.alloc (.map #[] 0)=I at *;obtain⟨O,R,B,J,V⟩:=qQl I c 73;have T:I.heap.size=w.heap.size+2:=om
 rw[N]at H;rw[T]at J;exact⟨O,R,(L.trans E).trans B,by rw[B.blk w.heap.size om id,E.blk w.heap.size om id];exact M,by rw[B.blk (w.heap.size+1) om id];exact H,J,om⟩
theorem sgNew {sb mn mr:Nat}{s:Sup}(pg:Nat->Option Pg)(A:w.heap[sb]?=some (.cells (sgC iv s mn mr nS nS nS nS) 73 (0, 0)))(hi:By w iv im)(B:w.heap[mn]?=some (.map #[] 0))(E:w.heap[mr]?=some (.map #[] 0))(hne:mn≠mr)(H:u.heap.size<=sb)(I:u.heap.size<=mn)(J:u.heap.size<=mr) :
  SgM u w sb iv im s mn mr nS nS nS nS [] [] pg 0 [] :=
 ⟨A,hi,Mp.new B,Mp.new E,hne,H,I,J,NwR.nil _ _ _ _,NwR.nil _ _ _ _,fun p=>by rw[if_neg (Nat.not_lt_zero p)];rfl,fun p=>by rw[if_neg (Nat.not_lt_zero p)];rfl,rfl,rfl⟩
theorem chooseP_err {a b:Bs}{e:Int}(h:qXq a b=.error e):(e != 0)=true:=by
 unfold qXq at h;split at h
 ·unfold qJy at h
  repeat' split at h
  all_goals first | (cases h;decide) | cases h
 ·repeat' split at h
  all_goals first | (cases h;decide) | cases h
theorem wrSup {iv x y a b c d:Value}{s s':Sup}(k:w.heap[sb]?=some (.cells #[iv, .int .i64 (s.width:Nat), .int .i64 (s.gen:Nat), .int .i64 (s.mark:Nat), .int .i64 (s.head:Nat), .int .i64 (s.pages:Nat), x, y, a, b, c, d] 73 (0, 0))) :
  wrO prog 67 w sb 1 (.agg (supC s'))=some (put w sb (.cells #[iv,.int .i64 (s'.width:Nat),.int .i64 (s'.gen:Nat),.int .i64 (s'.mark:Nat),.int .i64 (s'.head:Nat),.int .i64 (s'.pages:Nat),x,y,a,b,c,d] 73 (0,0))) :=
 wr_mid (a:=[iv]) (m:=[.int .i64 (s.width:Nat),.int .i64 (s.gen:Nat),.int .i64 (s.mark:Nat),.int .i64 (s.head:Nat),.int .i64 (s.pages:Nat)]) (r:=[x,y,a,b,c,d]) (vs:=[.int .i64 (s'.width:Nat),.int .i64 (s'.gen:Nat),.int .i64 (s'.mark:Nat),.int .i64 (s'.head:Nat),.int .i64 (s'.pages:Nat)]) sz67 rfl rfl k rfl
theorem lkOk {s:Sup}(ht:Tabs u)(hs:u.heap.size<=sb)(hi:∀ b,qQc iv=some b->b<u.heap.size)(h:s.ok):LkOk u sb iv s (pgF im s.mark) where
 tabs:=ht
 hsb:=hs
 hiv:=hi
 hm:=by obtain⟨_,_,h3,h4,_⟩:=h;omega
 hpg p hp:=pgF_none fun e=>by omega
 hnd p n hn:=by obtain⟨h2,_,ha⟩:=pgF_some hn;exact⟨h2,qWe ha⟩
 hrc p r hr:=by obtain⟨h2,_,ha⟩:=pgF_some hr;exact⟨h2,qWe ha⟩
theorem loadsSmall (w:World)(sb:Nat){k:Nat}(H:k<2):Fn prog 230 #[.agg #[],pt sb 0,.int .i64 (k:Nat)] w fun v w'=>v=.int .i64 0/\No w w':=by
 refine go230 sm ?_;obtain⟨W,A,B,_,I⟩:=qQl w #[] 174;have E:=dTo ((k:Int)<2);simp -implicitDefEqProofs only[go_sem,yJ,vH,yN,jY,Tryz.f230,A,E];exact B
def lkI (u:World)(sb:Nat)(iv:Value)(im:Bs)(s:Sup)(mn mr A:Nat)(n:Nat)(vs:List Value)(w:World):Prop :=
 ∃ (i:Nat) (cv fv:Value) (nl rl:List (Nat × Value)),vs=[pt sb 0,pt A 0,.int .i64 (s.mark:Nat),.int .i64 (i:Nat)]/\i<=s.mark/\n=s.mark - i/\SgM u w sb iv im s mn mr cv nS fv nS nl rl (pgF im s.mark) i (qXx im i)/\No u w/\w.heap[A]?=some (.cells #[zrV,loV] 120 (0,0))
section
variable {u w:World} {sb:Nat} {iv:Value} {im:Bs} {s:Sup} {mn mr:Nat} {cv vv fv bv:Value} {nl rl:List (Nat × Value)} {pg:Nat->Option Pg} {k:Nat} {fs:List (Nat × Int)}
theorem fvOff (h:SgM u w sb iv im s mn mr cv vv fv bv nl rl pg k fs)(b:Nat)(A:b<u.heap.size)(e:FvB sb fv b):False:=by
 rcases e with rfl | e
 ·exact Nat.not_lt.2 h.hsb A
 ·exact Nat.not_lt.2 (h.fnd.lt e).1 A
theorem fvOff2 (h:SgM u w sb iv im s mn mr cv vv fv bv nl rl pg k fs){b:Nat}(B:w.heap[b]?=some (.cells cs el (0,0)))(E:el≠73)(H:el≠43)(e:FvB sb fv b):False:=by
 rcases e with rfl | e
 ·rw[h.row]at B;cases B;exact E rfl
 ·obtain⟨c',A⟩:=qXa h.fnd e;rw[B]at A;cases A;exact H rfl
theorem ldOff (h:SgM u w sb iv im s mn mr cv vv fv bv nl rl pg k fs)(b:Nat)(A:b<u.heap.size)(e:LdB sb mn mr cv b):False:=by
 rcases e with rfl | rfl | rfl | e
 ·exact Nat.not_lt.2 h.hsb A
 ·exact Nat.not_lt.2 h.hmn A
 ·exact Nat.not_lt.2 h.hmr A
 ·exact Nat.not_lt.2 (h.chn.lt e).1 A
theorem ldOff2 (h:SgM u w sb iv im s mn mr cv vv fv bv nl rl pg k fs){b:Nat}(A:w.heap[b]?=some (.cells cs el (0,0)))(E:el≠73)(H:el≠3)(e:LdB sb mn mr cv b):False:=by
 obtain⟨_,_,I,_⟩:=h.nds;obtain⟨_,_,J,_⟩:=h.rcs
 rcases e with rfl | rfl | rfl | e
 ·rw[h.row]at A;cases A;exact E rfl
 ·rw[I]at A;cases A
 ·rw[J]at A;cases A
 ·obtain⟨c',B⟩:=qXa h.chn e;rw[A]at B;cases B;exact H rfl
end
def lkJ (u:World)(sb:Nat)(iv:Value)(im:Bs)(s:Sup)(mn mr H i:Nat)(cv fv:Value)(nl rl:List (Nat × Value))(n:Nat)(vs:List Value)(w:World):Prop :=
 ∃ j:Nat,vs=[pt sb 0,pt H 0,.int .i64 (i:Nat),.int .i64 (s.mark:Nat),.int .i64 (i:Nat),.agg #[zrV,loV],.int .i64 (j:Nat)]/\n=2 - j/\No u w/\w.heap[H]?=some (.cells #[zrV,loV] 120 (0,0)) /\
  ((j=0/\SgM u w sb iv im s mn mr cv nS fv nS nl rl (pgF im s.mark) i (qXx im i))∨(j=1/\SgM u w sb iv im s mn mr cv nS fv nS nl rl (pgF im s.mark) i (qXx im i)/\¬ (i<2/\zer ((pgB im i).drop 64)=false)) ∨
   (j=2/\qXv im i=0/\∃ A B E,SgM u w sb iv im s mn mr A nS fv nS B E (pgF im s.mark) (i+1) (qXx im i)))
def LkQ (u:World)(iv:Value)(im:Bs)(v:Value)(w:World):Prop :=
 match lookP im with
 | .error e=>v=.tuple #[.pointer none,.int .i64 e]/\No u w
 | .ok (s,fs)=>∃ sb mn mr cv vv nl rl,v=.tuple #[pt sb 0,.int .i64 0]/\LkOk u sb iv s (pgF im s.mark)/\ErrL u sb iv im s mn mr cv vv nl rl (pgF im s.mark) fs w/\(fs=[]->VsM u w vv (trsP s.width (pgF im s.mark) (chK (pgF im s.mark) s.mark) (chK (pgF im s.mark) s.mark).length))
theorem look (w:World)(ht:Tabs w)(hi:By w iv im)(hl:im.length<=2 ^ 47) :
  Fn prog 23 #[iv] w fun v w'=>LkQ w iv im v w':=by
 refine go23 sm ?_;obtain⟨a,cap,rfl,I⟩:=hi.slice;have n0:((256:Int)=0)=False:=sm
 have d0:((im.length:Int).tmod 256 != 0)=decide (im.length % 256≠0):=natne (im.length % 256) 0
 by_cases h0:im.length % 256≠0
 ·rw[decide_eq_true h0]at d0
  simp -implicitDefEqProofs only[go_sem,yJ,Tryz.f23,n0,if_false,d0];unfold LkQ lookP;rw[if_pos h0];exact⟨rfl,Fr.refl _ _⟩
 rw[decide_eq_false h0]at d0
 have d1:IntKind.i64.wrap ((im.length:Int).tdiv 256)=((im.length / 256:Nat):Int):=by
  have:(im.length:Int).tdiv 256=((im.length / 256:Nat):Int):=rfl;rw[this,qQq om om]
 have d2:decide (((im.length / 256:Nat):Int)<3)=decide (im.length / 256<3):=natlt _ 3;have d3:decide (((im.length / 256:Nat):Int) > 4096)=decide (4096<im.length / 256):=natlt 4096 _
 by_cases h1:im.length / 256<3∨4096<im.length / 256
 ·by_cases h3:im.length / 256<3
  ·rw[decide_eq_true h3]at d2
   simp -implicitDefEqProofs only[go_sem,yJ,qZj,Tryz.f23,n0,if_false,d0,d1,d2];unfold LkQ lookP;rw[if_neg h0,if_pos h1];exact⟨rfl,Fr.refl _ _⟩
  ·rw[decide_eq_false h3]at d2
   rw[decide_eq_true (h1.resolve_left h3)]at d3;simp -implicitDefEqProofs only[go_sem,yJ,bSe,Tryz.f23,n0,if_false,d0,d1,d2,d3];unfold LkQ lookP;rw[if_neg h0,if_pos h1];exact⟨rfl,Fr.refl _ _⟩
 have h3:¬ im.length / 256<3:=fun e=>h1 (.inl e);have h4:¬ 4096<im.length / 256:=fun e=>h1 (.inr e);rw[decide_eq_false h3]at d2;rw[decide_eq_false h4]at d3;have b1:=bldSight a im.length cap w.heap.size (w.heap.size+1);simp -implicitDefEqProofs only[go_sem,yJ,yN,bSe,Tryz.f23,n0,if_false,d0,d1,d2,d3,b1];obtain⟨b,o,e9,he,c7⟩:=hi.pos om;cases he
 have a8:b<w.heap.size:=by
  obtain⟨_,_,e,_,h⟩:=hi.at;obtain⟨_,_,e',h⟩:=h 0 om;cases e;cases e';exact rc_lt h
 have U:∀ b',qQc (.slice (some ⟨b,o,none⟩) im.length cap)=some b'->b'<w.heap.size:=fun b' hb=>by cases hb;exact a8
 obtain⟨W,hW,f1,k1,k2,k3,s1⟩:=allocS w (sgC (.slice (some ⟨b,o,none⟩) im.length cap) sup00 w.heap.size (w.heap.size+1) nS nS nS nS);rw[hW];have L:=sgNew (u:=w) (fun _=>none) k3 (hi.fr0 f1) k1 k2 om om (xC _) om;refine qQa pl42 ((sight_page L rfl I hl (p:=0) om).mono ?_);rintro _ w5 ⟨e5,rfl⟩;rw[e5];simp -implicitDefEqProofs only[go_sem,yJ];refine qQa pl42 ((sight_page L rfl I hl (p:=1) om).mono ?_);rintro _ w6 ⟨e6,rfl⟩;rw[e6];simp -implicitDefEqProofs only[go_sem,yJ];have p0:=page_by (hi.fr0 f1) (p:=0) om I;have p1:=page_by (hi.fr0 f1) (p:=1) om I;refine qQa pl41 ((choose W p0 om p1 om).mono ?_);rintro _ w7 ⟨R,hq⟩
 cases O:qXq (pgB im 0) (pgB im 1) with
 | error e =>
  rw[O]at hq;subst hq;have k7:=R.at k3 id;have q7:wrO prog 67 w7 (w.heap.size+2) 1 (.agg sup0)=some (put w7 (w.heap.size+2) (.cells (sgC (.slice (some ⟨b,o,none⟩) im.length cap) sup00 w.heap.size (w.heap.size+1) nS nS nS nS) 73 (0,0))):=wrSup (s:=sup00) (s':=sup00) k7;have ne:=chooseP_err O;simp -implicitDefEqProofs only[go_sem,yJ,jY,q7,ne];have A:lookP im=.error e:=by unfold lookP;rw[if_neg h0,if_neg h1,O]
  unfold LkQ;rw[A];exact⟨rfl,(f1.trans R).put (b:=w.heap.size+2) _ fun h=>by omega⟩
 | ok s =>
  rw[O]at hq;subst hq;have k7:=R.at k3 id;have q7:wrO prog 67 w7 (w.heap.size+2) 1 (.agg (supC s))=some (put w7 (w.heap.size+2) (.cells (sgC (.slice (some ⟨b,o,none⟩) im.length cap) s w.heap.size (w.heap.size+1) nS nS nS nS) 73 (0,0))):=wrSup (s:=sup00) (s':=s) k7;have J:=chooseP_ok O;have k8:=qQd (o:=.cells (sgC (.slice (some ⟨b,o,none⟩) im.length cap) s w.heap.size (w.heap.size+1) nS nS nS nS) 73 (0,0)) k7;have f8:=(f1.trans R).put (b:=w.heap.size+2) (.cells (sgC (.slice (some ⟨b,o,none⟩) im.length cap) s w.heap.size (w.heap.size+1) nS nS nS nS) 73 (0,0)) fun h=>by omega
  have c8:=(qQi (b:=w.heap.size+2) (o:=.cells (sgC (.slice (some ⟨b,o,none⟩) im.length cap) s w.heap.size (w.heap.size+1) nS nS nS nS) 73 (0,0)) ((R.blk _ (qQh k1) id).trans k1) om)
  have c9:=(qQi (b:=w.heap.size+2) (o:=.cells (sgC (.slice (some ⟨b,o,none⟩) im.length cap) s w.heap.size (w.heap.size+1) nS nS nS nS) 73 (0,0)) ((R.blk _ (qQh k2) id).trans k2) om)
  have a9:((0:Int) != 0)=false:=rfl;have np:=natne s.pages (im.length / 256);have r5:rdO prog 3 (put w7 (w.heap.size+2) (.cells (sgC (.slice (some ⟨b,o,none⟩) im.length cap) s w.heap.size (w.heap.size+1) nS nS nS nS) 73 (0,0))) (w.heap.size+2) 5=some (.int .i64 (s.pages:Nat)):=rd1 agg3 k8 rfl
  by_cases V:s.pages≠im.length / 256
  ·rw[decide_eq_true V]at np
   simp -implicitDefEqProofs only[go_sem,yJ,vH,bNe,jY,q7,r5,np];have A:lookP im=.error 4:=by unfold lookP;rw[if_neg h0,if_neg h1,O];exact if_pos V
   unfold LkQ;rw[A];exact⟨rfl,f8⟩
  rw[decide_eq_false V]at np;have A:lookP im=.ok (s,qJi im s):=by unfold lookP;rw[if_neg h0,if_neg h1,O];exact if_neg V
  simp -implicitDefEqProofs only[go_sem,yJ,vH,bNe,jY,q7,r5,np];have d4:=sgNew (u:=w) (pgF im s.mark) k8 (hi.fr0 f8) c8 c9 om om (xC _) om;generalize put w7 (w.heap.size+2) (.cells (sgC (.slice (some ⟨b,o,none⟩) im.length cap) s w.heap.size (w.heap.size+1) nS nS nS nS) 73 (0,0))=W8 at *;refine qQa pl43 ((rules W8).mono ?_);rintro _ w9 ⟨rfl,f9⟩;have d5:=d4.fr0 f9;obtain⟨WA,d6,fA,kA,sA⟩:=qQl w9 #[.nilIface,.nilIface] 120;have qA:wrO prog 120 WA w9.heap.size 0 (.agg #[zrV,loV])=some (put WA w9.heap.size (.cells #[zrV,loV] 120 (0,0))):=qQr sz120 kA rfl (by rw[<- kU];rfl);have kB:=qQd (o:=.cells #[zrV,loV] 120 (0,0)) kA;have fB:=fA.put (b:=w9.heap.size) (.cells #[zrV,loV] 120 (0,0)) fun h=>by omega
  have b0:=d5.fr0 fB;have d7:No w (put WA w9.heap.size (.cells #[zrV,loV] 120 (0,0))):=(f8.trans f9).trans fB;have r3:rdO prog 3 (put WA w9.heap.size (.cells #[zrV,loV] 120 (0,0))) (w.heap.size+2) 3=some (.int .i64 (s.mark:Nat)):=rd1 agg3 b0.row rfl;simp -implicitDefEqProofs only[go_sem,yJ,vH,yN,jY,d6,qA,r3];generalize put WA w9.heap.size (.cells #[zrV,loV] 120 (0,0))=WB at *;refine loopD [5,7,56,57] (lkI w (w.heap.size+2) (.slice (some ⟨b,o,none⟩) im.length cap) im s w.heap.size (w.heap.size+1) w9.heap.size) s.mark ⟨0,nS,nS,[],[],rfl,jK _,rfl,b0,d7,kB⟩ ?_;rintro _ vs w5 g ⟨i,cv,fv,nl,rl,rfl,f0,rfl,L,B,M⟩
  by_cases d8:i<s.mark
  ·have dl:=dTo ((i:Int)<(s.mark:Int))
   have b3:=qQp (P:=prog) (t:=120) agg120 sz120 M;simp -implicitDefEqProofs only[go_sem,yJ,dl,b3];have a0:IntKind.i64.wrap ((i:Int)+1)=((i+1:Nat):Int):=qXi (b:=1) (by have:=J.2.2.1;have:=J.2.2.2.1;omega);have b4:256*i+256<=im.length:=by have:=J.2.2.2.1;have:s.pages=im.length / 256:=Classical.not_not.1 V;omega
   have m0 : methO prog 173 "ledger/audit.wrong" = some 215 := by kernel_rfl
   have m1 : methO prog 174 "ledger/audit.wrong" = some 230 := by kernel_rfl
   refine loopD [5,7,8,56,57,60,61] (lkJ w (w.heap.size+2) (.slice (some ⟨b,o,none⟩) im.length cap) im s w.heap.size (w.heap.size+1) w9.heap.size i cv fv nl rl) 2 ⟨0,rfl,rfl,B,M,.inl ⟨rfl,L⟩⟩ ?_;clear L B M b3;rintro _ vs w5 g ⟨j,rfl,rfl,B,M,hj⟩
   rcases hj with ⟨rfl,L⟩ | ⟨rfl,L,hz⟩ | ⟨rfl,d9,e0,e1,e2,L⟩
   ·have dj:decide (((0:Nat):Int)<2)=true:=rfl
    have yA:(0:Int)<=((0:Nat):Int):=om
    have yB:((0:Nat):Int)<((2:Nat):Int):=om
    have pe:partO prog 119 #[zrV,loV] 0=some zrV:=x8
    simp -implicitDefEqProofs only[go_sem,yJ,dj,m0,yA,yB,pe,if_true,iTn,Nat.zero_mul];rw[show (#[vN #[]]++#[pt (w.heap.size+2) 0,vM .i64 (i:Nat)])=#[vN #[],pt (w.heap.size+2) 0,vM .i64 (i:Nat)] from rfl];refine qQa pl215 ((zerosWrong L rfl I hl b4).mono ?_);rintro _ w6 ⟨rfl,T⟩;have N:=L.fr0 T;have H:=T.at M id
    by_cases hz:i<2/\zer ((pgB im i).drop 64)=false
    ·rw[if_pos hz]
     have e3:((53:Int) != 0)=true:=rfl;simp -implicitDefEqProofs only[go_sem,yJ,e3];refine qQa pl44 ((sight_find N (B.trans T).size U i 53 (by have:=found1_len im i;omega)).mono ?_);rintro _ w7 ⟨rfl,R,a3,a4⟩;simp -implicitDefEqProofs only[go_sem,yJ,a0];have hw:qXv im i=53:=by unfold qXv;rw[if_pos hz.1,if_pos hz.2]
     refine⟨s.mark - (i+1),om,i+1,cv,a3,nl,rl,rfl,om,rfl,?_,(B.trans T).trans' R (fun b hb e=>fvOff N b hb e),R.at H fun e=>fvOff2 N H x9 x9 e⟩;rw[qJo,hw,if_neg x9];exact a4.skip (pgF_none fun e=>by omega)
    ·rw[if_neg hz]
     have a9:((0:Int) != 0)=false:=rfl;have e4:IntKind.i64.wrap (((0:Nat):Int)+1)=((1:Nat):Int):=rfl;simp -implicitDefEqProofs only[go_sem,yJ,bNe,e4];exact⟨1,om,1,rfl,rfl,B.trans T,H,.inr (.inl ⟨rfl,N,hz⟩)⟩
   ·have dj:decide (((1:Nat):Int)<2)=true:=rfl
    have yA:(0:Int)<=((1:Nat):Int):=om
    have yB:((1:Nat):Int)<((2:Nat):Int):=om
    have pe:partO prog 119 #[zrV,loV] 1=some loV:=x8
    simp -implicitDefEqProofs only[go_sem,yJ,dj,m1,yA,yB,pe,if_true,iTn,yK];rw[show (#[vN #[]]++#[pt (w.heap.size+2) 0,vM .i64 (i:Nat)])=#[vN #[],pt (w.heap.size+2) 0,vM .i64 (i:Nat)] from rfl];have a9:((0:Int) != 0)=false:=rfl;have b5:IntKind.i64.wrap (((1:Nat):Int)+1)=((2:Nat):Int):=rfl
    by_cases h2:i<2
    ·refine qQa pl230 ((loadsSmall w5 (w.heap.size+2) h2).mono ?_);rintro _ w6 ⟨rfl,T⟩
     have hw:qXv im i=0:=by unfold qXv;rw[if_pos h2,if_neg fun e=>hz ⟨h2,e⟩]
     simp -implicitDefEqProofs only[go_sem,yJ,bNe,b5];exact⟨0,om,2,rfl,rfl,B.trans T,T.at M id,.inr (.inr ⟨rfl,hw,cv,nl,rl,(L.fr0 T).skip (pgF_none fun e=>by omega)⟩)⟩
    ·have b6:pgF im s.mark i=(match qZb i (pgB im i) with | .ok g=>some g | .error _=>none):=if_pos ⟨om,d8⟩
     refine qQa pl230 ((loadsWrong L B rfl a8 I hl b4 om (by have:=J.2.2.1;have:=J.2.2.2.1;omega) b6).mono ?_);rintro _ w6 ⟨rfl,T,b7,b8,b9,N⟩
     have c0:qXv im i=errP (qZb i (pgB im i)):=by unfold qXv;rw[if_neg h2];cases qZb i (pgB im i) <;> rfl
     have H:=T.at M fun e=>ldOff2 L M x9 x9 e;have a5:No w w6:=B.trans' T fun b hb e=>ldOff L b hb e;generalize errP (qZb i (pgB im i))=E at *
     by_cases hE:E=0
     ·have cE:(E != 0)=false:=by rw[hE];rfl
      simp -implicitDefEqProofs only[go_sem,yJ,cE,b5];exact⟨0,om,2,rfl,rfl,a5,H,.inr (.inr ⟨rfl,c0.trans hE,b7,b8,b9,N⟩)⟩
     ·have cE:(E != 0)=true:=by simpa using hE
      simp -implicitDefEqProofs only[go_sem,yJ,cE];refine qQa pl44 ((sight_find N a5.size U i E (by have:=found1_len im i;omega)).mono ?_);rintro _ w7 ⟨rfl,R,a3,a4⟩;simp -implicitDefEqProofs only[go_sem,yJ,a0];refine⟨s.mark - (i+1),om,i+1,b7,a3,b8,b9,rfl,om,rfl,?_,a5.trans' R (fun b hb e=>fvOff N b hb e),R.at H fun e=>fvOff2 N H x9 x9 e⟩;rw[qJo,c0,if_neg hE];exact a4
   ·have dj:decide (((2:Nat):Int)<2)=false:=rfl
    simp -implicitDefEqProofs only[go_sem,yJ,dj,a0];refine⟨s.mark - (i+1),om,i+1,e0,fv,e1,e2,rfl,om,rfl,?_,B,M⟩;rw[qJo,if_pos d9,zO];exact L
  ·have e7:i=s.mark:=om
   subst e7;have dl:=dFo ((s.mark:Int)<(s.mark:Int));have Y:=lkOk (u:=w) (sb:=w.heap.size+2) (iv:=.slice (some ⟨b,o,none⟩) im.length cap) (im:=im) ht om U J
   have c3:LkM w w5 (w.heap.size+2) (.slice (some ⟨b,o,none⟩) im.length cap) im s w.heap.size (w.heap.size+1) cv nS nl rl (pgF im s.mark) (qXx im s.mark) []:=⟨⟨fv,nS,L,.inl rfl⟩,B,[],NwR.nil _ _ _ _,rfl,fun j b t h=>by cases h⟩
   obtain⟨fa,c4,c5,a6⟩:=L.fnd.rd.slice;rw[fnR_len]at c5 a6;have rf:rdO prog 23 w5 (w.heap.size+2) 10=some (.slice fa (qXx im s.mark).length c4):=by rw[<- c5];exact rd1 agg23 L.row rfl
   have nf:(((qXx im s.mark).length:Int) == 0)=decide ((qXx im s.mark).length=0):=nateq (qXx im s.mark).length 0
   by_cases Z:(qXx im s.mark).length=0
   ·rw[decide_eq_true Z]at nf
    simp -implicitDefEqProofs only[go_sem,yJ,jY,dl,rf,nf];have c6:qXx im s.mark=[]:=List.length_eq_zero_iff.1 Z;rw[c6]at c3;refine qQa pl45 ((whole c3 Y sm).mono ?_);rintro _ w6 ⟨rfl,e8,e6,v6⟩;simp -implicitDefEqProofs only[go_sem,yJ];unfold LkQ;rw[A];refine⟨w.heap.size+2,w.heap.size,w.heap.size+1,cv,e8,nl,rl,rfl,Y,?_⟩;have:qJi im s=(match wholeP s.width (pgF im s.mark) (chK (pgF im s.mark) s.mark) s.mark s.head with | .ok _=>[] | .error e=>[e]):=if_pos c6;rw[this]
    cases a7:wholeP s.width (pgF im s.mark) (chK (pgF im s.mark) s.mark) s.mark s.head with
    | ok x=>rw[a7]at e6;exact⟨e6,fun _=>v6 a7⟩
    | error x=>rw[a7]at e6;exact⟨e6,fun h=>by cases h⟩
   ·rw[decide_eq_false Z]at nf
    simp -implicitDefEqProofs only[go_sem,yJ,jY,dl,rf,nf];unfold LkQ;rw[A];refine⟨w.heap.size+2,w.heap.size,w.heap.size+1,cv,nS,nl,rl,rfl,Y,?_⟩;have:qJi im s=qXx im s.mark:=if_neg fun e=>Z (by rw[e];rfl);rw[this];exact⟨⟨B,fv,nS,L,.inl rfl⟩,fun h=>absurd (by rw[h];rfl) Z⟩
end A
end
section
namespace R
open Aud A
end R
end
section
namespace R
open Aud A
def seC (s:Sup)(kv nv rv av fv:Value):Array Value:=#[.int .i64 (s.width:Nat),.int .i64 (s.gen:Nat),.int .i64 (s.mark:Nat),.int .i64 (s.head:Nat),.int .i64 (s.pages:Nat),kv,nv,rv,av,nil0,fv,nil0]
def SS (t:TypeId):Prop:=t=3∨t=78∨t=80∨t=43∨t=92
instance (t:TypeId):Decidable (SS t):=by unfold SS;infer_instance
def SE (e t:TypeId):Prop:=t=e∨t=92
instance (e t:TypeId):Decidable (SE e t):=by unfold SE;infer_instance
structure SeV (w0 w:World) (sb:Nat) (s:Sup) (kv nv rv av fv:Value) (ks:List Nat) (nrows:Rows) (rs:List Rc) (ats:List Nat) (fs:List (Nat × Int)):Prop where
 hb:w0.heap.size<=sb
 no:No w0 w
 st:w.heap[sb]?=some (.cells (seC s kv nv rv av fv) 92 (0,0))
 ok:one kv=true/\one nv=true/\one rv=true/\one av=true/\one fv=true
 kd:NwR w0 w 3 1 kv (inR ks)
 nd:NwR w0 w 78 102 nv nrows
 rc:NwR w0 w 80 38 rv (rcRows rs)
 pg:NwR w0 w 3 1 av (inR ats)
 fd:NwR w0 w 43 2 fv (fnR fs)
 ap:∀ b,qQc kv=some b->qQc av≠some b
section
variable {w0 w w':World} {sb:Nat} {s:Sup} {kv nv rv av fv:Value} {ks:List Nat} {nrows:Rows} {rs:List Rc} {ats:List Nat} {fs:List (Nat × Int)}
end
end R
end
section
namespace R
open Aud A
section
variable {w0 w w':World} {sb:Nat} {s:Sup} {ks:List Nat} {nrows:Rows} {rs:List Rc} {ats:List Nat} {fs:List (Nat × Int)}
end
end R
end
section
namespace R
open Aud A
def nodeOf:Except Int Pg->Option Nd
 | .ok (.nd n)=>some n
 | _=>none
section
variable {w0 w:World} {sb:Nat} {s:Sup} {ks:List Nat} {nrows:Rows} {rs:List Rc} {ats:List Nat} {fs:List (Nat × Int)}
end
end R
end
section
namespace R
open Aud A
end R
end
section
theorem bldE (A:k.length=32)(h:one vv=true):bldO prog 83 [(0,dg k),(1,vv)]=some (.agg (k.map u8++[vv]).toArray):=by
 simp only[bldO,zero83,places83,Option.bind_some];have B:(vN (Array.replicate 32 (.int .u8 0)++#[Value.slice .none 0 0])).cells.size=33:=rfl;have e:(dg k).cells.toList=k.map u8:=rfl;rw[fill_cons (off:=0) (n:=32) rfl (by simp[yN,A]) (by rw[B];decide),fill_one1 (off:=32) rfl h (by rw[qJl,B];decide),qXu,Option.map_some]
 congr 2
 apply Array.toList_inj.1;rw[Array.toList_setIfInBounds,e,qJm _ _ _ (by rw[B,zB,A];decide)];simp[yN,A]
namespace R
open Aud A
def EnO (b w:World)(v:Value)(A:List En):Prop:=∃ rows,NwR b w 83 33 v rows/\rows.length=A.length/\∀ i (h:i<rows.length) (B:i<A.length),∃ vv,rows[i]=enRow A[i] vv/\A[i].1.length=32/\one vv=true/\By5 w vv A[i].2
theorem EnO.frT {B:List En}(h:EnO b w v B)(f:Fr F w w')(E:∀ x c,w.heap[x]?=some (.cells c 5 (0,0))∨w.heap[x]?=some (.cells c 83 (0,0))->¬ F x):EnO b w' v B:=by
 obtain⟨rows,H,I,J⟩:=h;refine⟨rows,H.fr f fun x L=>by obtain⟨c,A⟩:=nwr_ty H L;exact E x c (.inr A),I,fun i a c=>?_⟩;obtain⟨vv,M,N,O,R⟩:=J i a c;exact⟨vv,M,N,O,R.frT f fun x c A=>E x c (.inl A)⟩
theorem EnO.fr0 {A:List En}(h:EnO b w v A)(f:No w w'):EnO b w' v A:=h.frT f fun _ _ _ h=>h
theorem EnO.back {A:List En}(h:EnO b w v A)(B:u.heap.size<=b.heap.size):EnO u w v A:=by
 obtain⟨rows,E,H⟩:=h;exact⟨rows,E.back B,H⟩
theorem EnO.rd {A:List En}(h:EnO b w v A):EnR w v A:=by
 obtain⟨rows,B,E,H⟩:=h;refine⟨rows,B.rd,E,fun i a c=>?_⟩;obtain⟨vv,I,J,L,M⟩:=H i a c;exact⟨vv,I,J,L,M.1⟩
theorem EnO.one {A:List En}(h:EnO b w v A):V.one v=true:=by
 obtain⟨rows,B,_⟩:=h;obtain⟨a,c,e,_⟩:=B.rd.slice;rw[e];rfl
theorem EnO.push {B:List En}(h:EnO b w v B)(f:No b w)(O:k.length=32)(R:V.one vv=true)(W:By5 w vv x)(hl:B.length<=2 ^ 30) :
  ∃ T w',(Builtin.append_ #[84,84] 0 #[v,.slice (some ⟨w.heap.size,0,.none⟩) 1 1]).run prog (w.alloc (.cells (k.map u8++[vv]).toArray 83))=.ok T w'/\EnO b w' T (B++[(k,x)])/\No b w':=by
 obtain⟨rows,I,A,J⟩:=h;obtain⟨Y,Z,L,b8,M,m8⟩:=I.push (P:=prog) app84_84 (xs:=enRow (k,x) vv) (by simp[enRow,O]) (by simp only[enRow,List.all_append,qXs,List.all_cons,List.all_nil,R];rfl) x9 om om f.size
 have U:∀ x c,w.heap[x]?=some (.cells c 5 (0,0))->¬ qQc v=some x:=fun x c hc h=>by
  obtain⟨c',E⟩:=nwr_ty I h;rw[hc]at E;cases E
 refine⟨Y,Z,L,⟨rows++[enRow (k,x) vv],b8,by simp[A],?_⟩,f.trans' M fun b' a0 h=>by have:=(I.lt h).1;omega⟩;intro q hq N
 by_cases H:q<rows.length
 ·obtain⟨y,a1,a2,a3,a4⟩:=J q H om
  have el:(B++[(k,x)])[q]=B[q]'om:=jQ om;rw[el];exact⟨y,by rw[jQ H];exact a1,a2,a3,a4.frT M U⟩
 ·obtain rfl:q=rows.length:=by simp at hq;omega
  have el:(B++[(k,x)])[rows.length]'N=(k,x):=by simp[A]
  rw[el];exact⟨vv,sm,O,R,W.frT M U⟩
end R
end
section
namespace Aud
end Aud
namespace R
open Aud A
section
variable {w0 w w':World} {sb:Nat} {s:Sup}
end
def MsT (b w:World)(v:Value)(ms:List (List En)):Prop:=∃ rows,NwR b w 84 1 v rows/\rows.length=ms.length/\∀ i (h:i<rows.length) (A:i<ms.length),∃ mv,rows[i]=[mv]/\EnO b w mv ms[i]
theorem MsT.rd {ms:List (List En)}(h:MsT b w v ms):MsR w v ms:=by
 obtain⟨rows,A,B,E⟩:=h;refine⟨rows,A.rd,B,fun i a c=>?_⟩;obtain⟨mv,e,g⟩:=E i a c;exact⟨mv,e,g.one,g.rd⟩
theorem MsT.fr0 {ms:List (List En)}(h:MsT b w v ms)(f:No w w'):MsT b w' v ms:=by
 obtain⟨rows,A,B,E⟩:=h;refine⟨rows,A.fr0 f,B,fun i a c=>?_⟩;obtain⟨mv,e,g⟩:=E i a c;exact⟨mv,e,g.fr0 f⟩
theorem MsT.push {ms:List (List En)}(h:MsT b w v ms)(f:No b w){mv:Value}{m:List En}(N:EnO b w mv m)(hl:ms.length<=2 ^ 30) :
  ∃ O w',(Builtin.append_ #[37,37] 0 #[v,.slice (some ⟨w.heap.size,0,.none⟩) 1 1]).run prog (w.alloc (.cells #[mv] 84))=.ok O w'/\MsT b w' O (ms++[m])/\Fr (TF (·=84) b w) w w':=by
 obtain⟨rows,I,A,J⟩:=h;obtain⟨Y,R,L,Z,T,m8⟩:=I.push (P:=prog) app37_37 (xs:=[mv]) rfl (by simp[N.one]) x9 om om f.size
 have U:∀ x c t,t≠84->w.heap[x]?=some (.cells c t (0,0))->¬ qQc v=some x:=fun x c t ht B h=>by
  obtain⟨c',E⟩:=nwr_ty I h;rw[B]at E;cases E;exact ht rfl
 have V:∀ {mv:Value} {m:List En},EnO b w mv m->EnO b R mv m:=fun h=>h.frT T fun x c B=>B.elim (U x c _ x9) (U x c _ x9);refine⟨Y,R,L,⟨rows++[[mv]],Z,by simp[A],?_⟩,T.mono fun x _ W=>?_⟩
 ·intro q hq M
  by_cases H:q<rows.length
  ·obtain⟨y,a1,a2⟩:=J q H om
   have el:(ms++[m])[q]=ms[q]'om:=jQ om;rw[el];exact⟨y,by rw[jQ H];exact a1,V a2⟩
  ·obtain rfl:q=rows.length:=by simp at hq;omega
   have el:(ms++[m])[rows.length]'M=m:=by simp[A]
   rw[el];exact⟨mv,sm,V N⟩
 ·obtain⟨c,B⟩:=nwr_ty I W
  exact⟨(I.lt W).1,c,_,_,B,rfl⟩
end R
end
section
namespace R
open Aud A
theorem by_frn' {bs:Bs}(h:By w v bs)(f:Fr F w w')(A:0<bs.length->∀ b,qQc v=some b->¬ F b):By w' v bs:=by
 by_cases B:0<bs.length
 ·exact h.fr f fun b E _=>A B b E
 ·have:bs=[]:=List.length_eq_zero_iff.1 om
  subst this;obtain⟨H,a,cap,rfl,I,_⟩:=h;exact⟨H,a,cap,rfl,I,fun h=>absurd h sm⟩
theorem MsR.cutV {a:Option Addr}{n cap:Nat}{ms:List (List En)}(h:MsR w (.slice a n cap) ms)(J:ms.length=n)(B:m<=n):MsR w (V.cutV 1 a cap 0 m) (ms.take m):=by
 obtain⟨rows,E,H,I⟩:=h;have A:=E.cutV (l:=0) (m:=m) (jK _) B om;rw[List.drop_zero,Nat.sub_zero]at A;refine⟨_,A,by rw[lTk,lTk,H],fun i a b=>?_⟩;rw[lTk]at a b;rw[List.getElem_take,List.getElem_take];exact I i om om
theorem bldS4' (a b c d:Int):bldO prog 67 [(0,.int .i64 a),(1,.int .i64 b),(2,.int .i64 c),(4,.int .i64 d)]=some (.agg #[.int .i64 a,.int .i64 b,.int .i64 c,.int .i64 0,.int .i64 d]):=by
 unfold bldO;rw[zero67,places67];rfl
abbrev spC5 (w g m h p:Nat):Array Value:=#[.int .i64 (w:Nat),.int .i64 (g:Nat),.int .i64 (m:Nat),.int .i64 (h:Nat),.int .i64 (p:Nat)]
def dkJ (w0:World)(n:Nat)(P:Bs)(m:Nat)(vs:List Value)(w:World):Prop :=
 ∃ (i:Nat) (v:Value),vs=[.int .i64 (n:Nat),v]/\P.length+i<=256*n/\m=256*n - (P.length+i)/\NwB w0 w v (P++zK i 0)/\No w0 w
theorem supVar (w:World){b wd g m n:Nat}(k:w.heap[b]?=some (.cells (spC5 wd g m 0 n) 67 (0,0)))(h:Nat):wrO prog 3 w b 3 (.int .i64 (h:Nat))=some (put w b (.cells (spC5 wd g m h n) 67 (0,0))):=by
 rw[wr1 sz3 rfl k (show 3<5 by decide)];rfl
theorem disk17 (w:World)(ht:Tabs w)(a0:DivT w)(wd n:Nat){c0:Value}{ms:List (List En)}(a9:MsR w c0 ms)(T:∀ m ∈ ms, MapOk m/\m.length<=2 ^ 16)(c3:ms.length<=2 ^ 21)(hb:(imgP wd 0 [] .nil 2 ms).length<=2 ^ 37)(hn:3<=n/\n<=4096) :
  Fn prog 14 #[vi wd,vi 0,c0,vi n] w fun v w'=>No w w'/\if markP wd ms<=n then NwB w w' v (dskP wd ms n) else v=nil0:=by
 refine go14 sm ?_;obtain⟨ma,mc,rfl,e8⟩:=a9.slice;have c4:markP wd ms=2+(imgP wd 0 [] .nil 2 ms).length:=rfl;have h1:=qVc wd 0 ms [] .nil 2;have f0:markP wd ms.dropLast=2+(imgP wd 0 [] .nil 2 ms.dropLast).length:=rfl;unfold DenF;refine qWa 5 (fun R H=>R 0=vi wd/\R 2=.slice ma ms.length mc/\R 3=vi n/\markP wd ms<=n/\R 10=vi (markP wd ms)/\R 11=vi (markP wd ms.dropLast)/\No w H/\NwB w H (R 9) (qXy 2 (imgP wd 0 [] .nil 2 ms))) ?_ ?_
 ·simp -implicitDefEqProofs only[go_sem,yJ,vH,jY,Tryz.f14]
  refine qQa pl30 ((image17 w ht a0 wd 0 a9 T c3 x9 hb).mono ?_);rintro _ w1 ⟨out,rfl,M,f1⟩;rw[<- c4];have d1:decide (((markP wd ms:Nat):Int) > (n:Int))=decide (n<markP wd ms):=decide_eq_decide.2 om;have d2:=dFo ((n:Int)<3);have d3:=dFo ((n:Int) > 4096)
  by_cases N:markP wd ms<=n
  case neg =>
   rw[decide_eq_true (show n<markP wd ms by omega)]at d1;simp -implicitDefEqProofs only[go_sem,yJ,qZj,d1];exact⟨f1,by rw[if_neg N];trivial⟩
  rw[decide_eq_false (show ¬ n<markP wd ms by omega)]at d1;have d4:decide (((ms.length:Nat):Int) > 0)=decide (0<ms.length):=decide_eq_decide.2 om
  by_cases h0:0<ms.length
  ·rw[decide_eq_true h0]at d4
   have a1:IntKind.i64.wrap (((ms.length:Nat):Int) - 1)=((ms.length - 1:Nat):Int):=qXr (b:=1) om om;have sl:=slc_hi (P:=prog) slc37 arr37 sz84 (a:=ma) (l:=ms.length - 1) (n:=ms.length) (cap:=mc) om e8;have a8:=(a9.fr0 f1).cutV rfl (m:=ms.length - 1) om;rw[<- List.dropLast_eq_take]at a8;simp -implicitDefEqProofs only[go_sem,yJ,bSe,d1,d2,d3,d4,a1,sl];refine qQa pl30 ((image17 w1 (ht.no f1) (a0.no f1) wd 0 a8 (fun m hm=>T m (List.dropLast_subset _ hm)) (by rw[List.length_dropLast];omega) x9 om).mono ?_);rintro _ H ⟨g8,rfl,_,f2⟩;rw[<- f0];simp -implicitDefEqProofs only[go_sem,yJ];refine⟨?_,?_,?_,N,?_,?_,f1.trans f2,?_⟩
   rotate_left 5
   ·simp -implicitDefEqProofs only[go_sem,yJ]
    exact M.fr0 f2
   all_goals simp -implicitDefEqProofs only[go_sem,yJ]
  ·rw[decide_eq_false h0]at d4
   have hn:ms=[]:=List.length_eq_zero_iff.1 om;have e2:((2:Int))=((markP wd ms.dropLast:Nat):Int):=by rw[hn];rfl
   simp -implicitDefEqProofs only[go_sem,yJ,bSe,d1,d2,d3,d4];refine⟨?_,?_,?_,N,?_,?_,f1,?_⟩
   rotate_left 5
   ·simp -implicitDefEqProofs only[go_sem,yJ]
    exact M
   all_goals simp -implicitDefEqProofs only[go_sem,yJ]
   exact congrArg (vM .i64) e2
 rintro R H ⟨e0,e2,U,N,a7,V,f2,M⟩;simp only[if_pos N];have h2:markP wd ms.dropLast<=markP wd ms:=by unfold markP;omega
 have g9:=c3;refine qWa 5 (fun I w3=>I 3=vi n/\I 9=R 9/\I 12=vi (1+ms.length)/\No H w3/\∃ b1 b2,I 13=pt b1 0/\I 14=pt b2 0/\w3.heap[b1]?=some (.cells (spC5 wd (1+ms.length) (markP wd ms) (headP (markP wd ms)) n) 67 (0,0))/\w3.heap[b2]?=some (.cells (spC5 wd ms.length (markP wd ms.dropLast) (headP (markP wd ms.dropLast)) n) 67 (0,0))) ?_ ?_
 ·have a2:IntKind.i64.wrap (1+((ms.length:Nat):Int))=((1+ms.length:Nat):Int):=by rw[Int.natCast_add];exact qXi (a:=1)
  have a3:IntKind.i64.wrap (((1+ms.length:Nat):Int) - 1)=((ms.length:Nat):Int):=(qXr (b:=1) om om).trans (by congr 1;omega);have b1:bldO prog 67 [(0,vi wd),(1,vi (1+ms.length)),(2,vi (markP wd ms)),(4,vi n)]=some (.agg (spC5 wd (1+ms.length) (markP wd ms) 0 n)):=bldS4' ..;have b2:bldO prog 67 [(0,vi wd),(1,vi ms.length),(2,vi (markP wd ms.dropLast)),(4,vi n)]=some (.agg (spC5 wd ms.length (markP wd ms.dropLast) 0 n)):=bldS4' ..;obtain⟨W3,c5,f3,k3,s3⟩:=qQl H #[.int .i64 0,.int .i64 0,.int .i64 0,.int .i64 0,.int .i64 0] 67;have q3:wrO prog 67 W3 H.heap.size 0 (.agg (spC5 wd (1+ms.length) (markP wd ms) 0 n))=some (put W3 H.heap.size (.cells (spC5 wd (1+ms.length) (markP wd ms) 0 n) 67 (0,0))):=qQr sz67 k3 rfl (by rw[<- kU];rfl);have k4:=qQd (o:=.cells (spC5 wd (1+ms.length) (markP wd ms) 0 n) 67 (0,0)) k3;have f4:No H (put W3 H.heap.size (.cells (spC5 wd (1+ms.length) (markP wd ms) 0 n) 67 (0,0))):=f3.put (b:=H.heap.size) _ fun h=>by omega
  simp -implicitDefEqProofs only[go_sem,yJ,yN,Tryz.f14,qKc,tailC,e0,e2,U,a7,V,a2,b1,c5,q3];generalize put W3 H.heap.size (.cells (spC5 wd (1+ms.length) (markP wd ms) 0 n) 67 (0,0))=E at *;have h3:=qQh k4;obtain⟨W5,c6,Z,k5,s5⟩:=qQl E #[.int .i64 0,.int .i64 0,.int .i64 0,.int .i64 0,.int .i64 0] 67;have q5:wrO prog 67 W5 E.heap.size 0 (.agg (spC5 wd ms.length (markP wd ms.dropLast) 0 n))=some (put W5 E.heap.size (.cells (spC5 wd ms.length (markP wd ms.dropLast) 0 n) 67 (0,0))):=qQr sz67 k5 rfl (by rw[<- kU];rfl);have k6:=qQd (o:=.cells (spC5 wd ms.length (markP wd ms.dropLast) 0 n) 67 (0,0)) k5;have f6:No E (put W5 E.heap.size (.cells (spC5 wd ms.length (markP wd ms.dropLast) 0 n) 67 (0,0))):=Z.put (b:=E.heap.size) _ fun h=>by omega
  have b0:=f6.at k4 id;simp -implicitDefEqProofs only[go_sem,yJ,yN,a3,b2,c6,q5];generalize put W5 E.heap.size (.cells (spC5 wd ms.length (markP wd ms.dropLast) 0 n) 67 (0,0))=w6 at *;have c7:=f4.trans f6;clear W3 W5 c5 c6 f3 Z k3 k5 s3 s5 q3 q5 f4 f6 k4;have d5:decide (((markP wd ms:Nat):Int) > 2)=decide (2<markP wd ms):=decide_eq_decide.2 om;have d6:decide (((markP wd ms.dropLast:Nat):Int) > 2)=decide (2<markP wd ms.dropLast):=decide_eq_decide.2 om
  have f8:∀ (w7:World), No H w7->w7.heap[E.heap.size]?=some (.cells (spC5 wd ms.length (markP wd ms.dropLast) 0 n) 67 (0, 0))->w7.heap[H.heap.size]?=some (.cells (spC5 wd (1+ms.length) (markP wd ms) (headP (markP wd ms)) n) 67 (0, 0))->2<markP wd ms.dropLast ->
    No H (put w7 E.heap.size (.cells (spC5 wd ms.length (markP wd ms.dropLast) (markP wd ms.dropLast - 1) n) 67 (0,0)))/\(put w7 E.heap.size (.cells (spC5 wd ms.length (markP wd ms.dropLast) (markP wd ms.dropLast - 1) n) 67 (0,0))).heap[H.heap.size]?=some (.cells (spC5 wd (1+ms.length) (markP wd ms) (headP (markP wd ms)) n) 67 (0,0)) /\
    (put w7 E.heap.size (.cells (spC5 wd ms.length (markP wd ms.dropLast) (markP wd ms.dropLast - 1) n) 67 (0,0))).heap[E.heap.size]?=some (.cells (spC5 wd ms.length (markP wd ms.dropLast) (headP (markP wd ms.dropLast)) n) 67 (0,0)):=fun w7 f7 k7 f9 hd =>
   ⟨f7.put (b:=E.heap.size) _ fun h=>by omega,qQi (b:=E.heap.size) f9 om,by rw[qQd k7];unfold headP;rw[if_pos hd]⟩
  have a5:2<markP wd ms.dropLast->IntKind.i64.wrap (((markP wd ms.dropLast:Nat):Int) - 1)=((markP wd ms.dropLast - 1:Nat):Int):=fun h=>qXr (b:=1) om om
  by_cases W:2<markP wd ms
  ·rw[decide_eq_true W]at d5
   have a4:IntKind.i64.wrap (((markP wd ms:Nat):Int) - 1)=((markP wd ms - 1:Nat):Int):=qXr (b:=1) om om;have q7:=supVar w6 b0 (markP wd ms - 1);have hh:headP (markP wd ms)=markP wd ms - 1:=if_pos W;have k7:=qQd (o:=.cells (spC5 wd (1+ms.length) (markP wd ms) (markP wd ms - 1) n) 67 (0,0)) b0;have b4:=qQi (b:=H.heap.size) (o:=.cells (spC5 wd (1+ms.length) (markP wd ms) (markP wd ms - 1) n) 67 (0,0)) k6 om;have f7:No H (put w6 H.heap.size (.cells (spC5 wd (1+ms.length) (markP wd ms) (markP wd ms - 1) n) 67 (0,0))):=c7.put (b:=H.heap.size) _ fun h=>by omega
   simp -implicitDefEqProofs only[go_sem,yJ,jY,a7,d5,a4,q7];generalize put w6 H.heap.size (.cells (spC5 wd (1+ms.length) (markP wd ms) (markP wd ms - 1) n) 67 (0,0))=w7 at *;rw[<- hh]at k7
   by_cases Y:2<markP wd ms.dropLast
   ·rw[decide_eq_true Y]at d6
    have a5:=a5 Y;have q8:=supVar w7 b4 (markP wd ms.dropLast - 1);obtain⟨x1,x2,x3⟩:=f8 w7 f7 b4 k7 Y;simp -implicitDefEqProofs only[go_sem,yJ,jY,V,d6,a5,q8]
    refine⟨?_,?_,?_,x1,H.heap.size,E.heap.size,?_,?_,x2,x3⟩ <;> simp -implicitDefEqProofs only[go_sem,yJ,U]
   ·rw[decide_eq_false Y]at d6
    have b7:headP (markP wd ms.dropLast)=0:=if_neg Y;simp -implicitDefEqProofs only[go_sem,V,d6]
    refine⟨?_,?_,?_,f7,H.heap.size,E.heap.size,?_,?_,k7,by rw[b7];exact b4⟩ <;> simp -implicitDefEqProofs only[go_sem,yJ,U]
  ·rw[decide_eq_false W]at d5
   rw[decide_eq_false (show ¬ 2<markP wd ms.dropLast by omega)]at d6;have hh:headP (markP wd ms)=0:=if_neg W;have b7:headP (markP wd ms.dropLast)=0:=if_neg om;simp -implicitDefEqProofs only[go_sem,yJ,a7,V,d5,d6]
   refine⟨?_,?_,?_,c7,H.heap.size,E.heap.size,?_,?_,by rw[hh];exact b0,by rw[b7];exact k6⟩ <;> simp -implicitDefEqProofs only[go_sem,yJ,U]
 generalize R 9=out at *;clear e0 e2 U a7 V;rintro R w3 ⟨U,e9,b8,f3,b1,b2,c8,c9,k1,k2⟩;refine qWa 3 (fun I E=>I 3=vi n/\I 9=out/\No w3 E/\∃ A B,supsP wd ms n=A++B/\A.length=256/\B.length=256/\By E (I 15) A/\By E (I 16) B/\one (I 15)=true/\one (I 16)=true) ?_ ?_
 ·have l7:=qQp (P:=prog) (t:=67) agg67 sz67 k1
  simp -implicitDefEqProofs only[go_sem,Tryz.f14,qKc,tailC,c8,l7];refine qQa pl31 ((super5 w3 (a0.no (f2.trans f3)) (nowS wd ms n) ⟨show 1+ms.length<2 ^ 62 by omega,show markP wd ms<2 ^ 62 by omega,show headP (markP wd ms)<2 ^ 62 by unfold headP;split <;> omega,show n<2 ^ 62 by omega⟩).mono ?_);rintro va E ⟨ba,f4⟩;have l8:=qQp (P:=prog) (t:=67) agg67 sz67 (f4.at k2 id);simp -implicitDefEqProofs only[go_sem,yJ,c9,l8];refine qQa pl31 ((super5 E (a0.no ((f2.trans f3).trans f4)) (wasS wd ms n) ⟨show ms.length<2 ^ 62 by omega,show markP wd ms.dropLast<2 ^ 62 by omega,show headP (markP wd ms.dropLast)<2 ^ 62 by unfold headP;split <;> omega,show n<2 ^ 62 by omega⟩).mono ?_);rintro vb w5 ⟨bb,Z⟩;have n2:((2:Int)=0)=False:=sm
  have d8:(((1+ms.length:Nat):Int).tmod 2 == 1)=decide ((1+ms.length) % 2=1):=nateq ((1+ms.length) % 2) 1;obtain⟨ra,ca,d0⟩:=ba.slice;obtain⟨rb,cb,d7⟩:=bb.slice
  by_cases hg:(1+ms.length) % 2=1
  ·rw[decide_eq_true hg]at d8
   have es:supsP wd ms n=supB (wasS wd ms n)++supB (nowS wd ms n):=if_pos hg;simp -implicitDefEqProofs only[go_sem,yJ,b8,n2,if_false,d8];refine⟨?_,?_,f4.trans Z,_,_,es,qJs _,qJs _,?_,?_,?_,?_⟩
   ·simp -implicitDefEqProofs only[go_sem,yJ,U]
   ·simp -implicitDefEqProofs only[go_sem,yJ,e9]
   ·simp -implicitDefEqProofs only[go_sem,yJ]
    exact bb.by
   ·simp -implicitDefEqProofs only[go_sem]
    exact ba.by.fr0 Z
   ·simp -implicitDefEqProofs only[go_sem,yJ]
    rw[d7];rfl
   ·simp -implicitDefEqProofs only[go_sem]
    rw[d0];rfl
  ·rw[decide_eq_false hg]at d8
   have es:supsP wd ms n=supB (nowS wd ms n)++supB (wasS wd ms n):=if_neg hg;simp -implicitDefEqProofs only[go_sem,yJ,b8,n2,if_false,d8];refine⟨?_,?_,f4.trans Z,_,_,es,qJs _,qJs _,?_,?_,?_,?_⟩
   ·simp -implicitDefEqProofs only[go_sem,yJ,U]
   ·simp -implicitDefEqProofs only[go_sem,yJ,e9]
   ·simp -implicitDefEqProofs only[go_sem,yJ]
    exact ba.by.fr0 Z
   ·simp -implicitDefEqProofs only[go_sem,yJ]
    exact bb.by
   ·simp -implicitDefEqProofs only[go_sem,yJ]
    rw[d0];rfl
   ·simp -implicitDefEqProofs only[go_sem,yJ]
    rw[d7];rfl
 clear U e9 b8 c8 c9 k1 k2;rintro R E ⟨U,e9,f4,SA,SB,es,sa,sb,ba,bb,oa,ob⟩;generalize g0:R 15=va at *;generalize g2:R 16=vb at *;have b9:No H E:=f3.trans f4;have d9:No w E:=f2.trans b9;have hG:=img_right0 (wd:=wd) (fun m hm=>(T m hm).1) om;have ho:(qXy 2 (imgP wd 0 [] .nil 2 ms)).length=256*(markP wd ms - 2):=by rw[bytes_len hG,c4];congr 1;omega
 have e1:dskP wd ms n=SA++SB++qXy 2 (imgP wd 0 [] .nil 2 ms)++zK (256*n - 256*markP wd ms) 0:=by unfold dskP;rw[es]
 rw[e1];have W:2<=markP wd ms:=om
 generalize qXy 2 (imgP wd 0 [] .nil 2 ms)=SO at *;have J:=NwB.catB (P:=prog) app22_22 (NwB.nil w E) ba (by rw[sa];decide) d9;simp -implicitDefEqProofs only[go_sem,Tryz.f14,qKc,tailC,g0];refine Exists.elim J fun v1 J=>Exists.elim J fun u1 J=>?_;have g1:No E u1:=J.2.2.2.1.mono fun b _ e=>by cases e
 have g3:NwB w u1 v1 SA:=by have:=J.2.1;rwa [List.nil_append]at this
 have m1:∀ b,qQc v1=some b->E.heap.size<=b:=fun b hb=>(J.2.2.2.2 b hb).resolve_left fun e=>by cases e
 refine qQj ⟨v1,u1,J.1,?_⟩;have L:=NwB.catB (P:=prog) app22_22 g3 (bb.fr0 g1) (by rw[sa,sb];decide) (d9.trans g1);simp -implicitDefEqProofs only[go_sem,yJ,g2];refine Exists.elim L fun v2 L=>Exists.elim L fun u2 L=>?_;refine qQj ⟨v2,u2,L.1,?_⟩;have e4:By u1 out SO:=M.by.fr0 (b9.trans g1)
 have e5:By u2 out SO:=by_frn' e4 L.2.2.2.1 fun _ b hb e=>by
  have:=m1 b e;have:=(NwB.lt M hb).2;have:=b9.size;omega
 have O:=NwB.catB (P:=prog) app22_22 L.2.1 e5 (by rw[lAp,sa,sb,ho];omega) L.2.2.1;simp -implicitDefEqProofs only[go_sem,yJ,e9];refine Exists.elim O fun v3 O=>Exists.elim O fun u3 O=>?_;refine qQj ⟨v3,u3,O.1,?_⟩;have g4:(SA++SB++SO).length=256*markP wd ms:=by rw[lAp,lAp,sa,sb,ho];omega
 have b3:=O.2.1;have g5:=O.2.2.1;clear J L O e4 e5;generalize SA++SB++SO=P0 at *;simp -implicitDefEqProofs only[go_sem];refine loopD [3,17] (dkJ w n P0) (256*n - P0.length) ⟨0,v3,?_,om,om,by rw[List.replicate_zero,zO];exact b3,g5⟩ ?_
 ·simp -implicitDefEqProofs only[go_sem,yJ,U]
 rintro _ vs w5 g ⟨i,v,rfl,hi,rfl,b5,Z⟩;obtain⟨h4,h5,rfl⟩:=b5.slice;have e6:(P0++zK i 0).length=256*markP wd ms+i:=by rw[lAp,g4,lRe]
 rw[e6]at b5 ⊢;have a6:IntKind.i64.wrap (256*((n:Nat):Int))=((256*n:Nat):Int):=i64n (n:=256*n);have dl:=natlt (256*markP wd ms+i) (256*n)
 by_cases e7:256*markP wd ms+i<256*n
 ·rw[decide_eq_true e7]at dl
  have hg:=NwB.grow b5 0 (by rw[e6];omega) Z;rw[List.append_assoc,show (zK i (0:Byte))++[0]=zK (i+1) 0 from (List.replicate_succ' ..).symm]at hg;obtain⟨v6,w6,g6,b6,f6,_,_⟩:=hg;simp -implicitDefEqProofs only[go_sem,yJ,yN,jY,a6,dl];refine qQm (v:=.slice (some ⟨w5.heap.size,0,none⟩) 1 1) (w':=w5.alloc (.cells (bl [0]) 5)) rfl ?_;simp -implicitDefEqProofs only[go_sem,yJ];refine qQj ⟨v6,w6,g6,?_⟩;simp -implicitDefEqProofs only[go_sem,yJ];exact⟨256*n - (P0.length+(i+1)),om,i+1,v6,rfl,om,rfl,b6,f6⟩
 ·rw[decide_eq_false e7]at dl
  have g7:i=256*n - 256*markP wd ms:=om
  subst g7;simp -implicitDefEqProofs only[go_sem,yJ,a6,dl];exact⟨Z,b5⟩
end R
end
end Go.V
