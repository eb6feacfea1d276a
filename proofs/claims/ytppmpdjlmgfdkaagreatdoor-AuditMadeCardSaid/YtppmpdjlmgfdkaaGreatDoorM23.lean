/- Helpers. -/
import Derived.Test.YtppmpdjlmgfdkaaGreatDoorM22
import Derived.Test.YtppmpdjlmgfdkaaGreatDoorM08
import Derived.Test.YtppmpdjlmgfdkaaGreatDoorM21
import Derived.Test.YtppmpdjlmgfdkaaGreatDoorM09
set_option linter.all false
set_option maxRecDepth 100000
set_option maxHeartbeats 8000000
open Bool renaming not_false->xH,not_true->y8
open List renaming getElem?_toArray->zJ,append_nil->z4,getElem?_append_right->jR,getElem?_eq_getElem->zZ
open Nat renaming reduceEqDiff->j7,zero_add->jV,reduceBEq->yX,reduceAdd->vS,le_trans->kC,le_refl->xC,sub_self->kO,zero_le->jJ,mul_one->j8
open Go.Value renaming cells->yU,int->vU,agg->vG
namespace Go.V
open Go.Proofs.Tryz Go.V.Tryz
open Go.Proofs Sha
variable {cs:Array Value} {at':Bool} {im:Bs} {b el f i n p sb:Nat} {F:Nat->Prop} {iv vv:Value} {u w w':World}
section
namespace A
open Aud
theorem ndOk {c:Cx}(B:c.Ok):NdOk (ndsP c.pg):=fun p nd h=>by
 obtain⟨D,A⟩:=B.hnd p nd (qJx.1 h);refine⟨D,?_⟩
 cases nd with
 | leaf k v=>exact A.1
 | br E H lc rc I rs =>
  obtain⟨⟨a,b,_,d,_⟩,_⟩:=A;refine⟨d,fun e=>?_,fun e=>?_⟩
  ·unfold chR at a;rw[if_pos e]at a;exact a
  ·unfold chR at b;rw[if_pos e]at b;exact b
theorem pg_lt {c:Cx}(A:c.Ok){n:Nd}(h:ndsP c.pg p=some n):p<4096:=by
 by_cases B:p<c.s.mark
 ·have:=A.hm;omega
 ·have:=qJx.1 h;rw[A.hpg p x8]at this;cases this
theorem thr_bound {wd:Int}{pg:Nat->Option Nd}{fresh M:Nat}(B:∀ p n, pg p=some n->p<M):∀ {f n:Nat} {at':Bool} {o:PT} {row:Bs} {page by' count:Nat} {sum:Bs} {next:Nat} {t:PT} {next':Nat}, next<=M ->
  thr wd pg fresh f n at' o row page by' count sum next=.ok (t,next')->next'<=M:=by
 intro f
 induction f with
 | zero=>intro n at' o row page by' count sum next t next' _ h;cases h
 | succ f I =>
  intro n at' o row page by' count sum next t next' D h
  unfold thr at h;split at h
  ·cases h
  ·rename_i k v A
   have E:=B _ _ (qVv A).1;split at h
   ·split at h
    ·split at h
     ·cases h;exact D
     ·cases h
    ·cases h
   ·split at h
    ·rename_i H
     split at h
     ·cases h;omega
     ·cases h
    ·cases h
  ·rename_i J L lc rc N rs A
   have E:=B _ _ (qVv A).1;split at h
   ·split at h
    ·split at h
     ·cases h;exact D
     ·cases h
    ·cases h
   ·split at h
    ·cases h
    ·split at h
     ·cases h
     ·split at h
      ·rename_i H
       split at h
       ·cases h;omega
       ·cases h
      ·cases h
def newBr (c:Cx)(f n:Nat)(at':Bool)(o:PT)(row:Bs)(page next A B lc rc:Nat)(H rs:Bs):Except (Nat × Int) (PT × Nat) :=
 match (if A=0 then .ok (.nil,next) else thr c.s.width (ndsP c.pg) c.fresh f (n+1) (at' && isBr o) (Aud.kid n false o) (Aud.under n false row) A page lc H next:Except (Nat × Int) (PT × Nat)) with
 | .error e=>.error e
 | .ok (l,D) =>
  match (if B=0 then .ok (.nil,D) else thr c.s.width (ndsP c.pg) c.fresh f (n+1) (at' && isBr o) (Aud.kid n true o) (Aud.under n true row) B page rc rs D:Except (Nat × Int) (PT × Nat)) with
  | .error e=>.error e
  | .ok (r,E)=>if page=E/\¬ (at'=true/\likeB A B o=true) then .ok (.br page l r,E+1) else .error (page,172)
def part (c:Cx)(f n:Nat)(at':Bool)(o:PT)(row:Bs)(page by' next:Nat):Nd->Except (Nat × Int) (PT × Nat)
 | .leaf k v=>if page<c.fresh then (if lfOf k o=page then .ok (.leaf page k v,next) else .error (by',172)) else newLf c o page next k v
 | .br A B lc rc D rs=>if page<c.fresh then (if rowOf at' o=page then .ok (o,next) else .error (by',172)) else newBr c f n at' o row page next A B lc rc D rs
theorem thr_part {c:Cx}{o:PT}{row:Bs}{page by' count:Nat}{sum:Bs}{next:Nat}:thr c.s.width (ndsP c.pg) c.fresh (f+1) n at' o row page by' count sum next =
  match Aud.linked (ndsP c.pg) n row page by' count with
  | none=>.error (by',170)
  | some nd=>match part c f n at' o row page by' next nd with
   | .error e=>.error e
   | .ok (t,m)=>if ndg c.s.width (256 - n) nd=sum then .ok (t,m) else .error (by',171):=by
 conv=>lhs;unfold thr
 cases Aud.linked (ndsP c.pg) n row page by' count with
 | none=>rfl
 | some nd =>
  cases nd with
  | leaf k v =>
   simp only[part,ndg,newLf];split
   ·split <;> rfl
   ·split <;> rfl
  | br A B lc rc E rs =>
   simp only[part,newBr];split
   ·split <;> rfl
   ·generalize (if A=0 then Except.ok (PT.nil,next) else thr c.s.width (ndsP c.pg) c.fresh f (n+1) (at' && isBr o) (Aud.kid n false o) (Aud.under n false row) A page lc E next:Except (Nat × Int) (PT × Nat))=x
    cases x with
    | error e=>rfl
    | ok x =>
     obtain⟨l,D⟩:=x;simp only;generalize (if B=0 then Except.ok (PT.nil,D) else thr c.s.width (ndsP c.pg) c.fresh f (n+1) (at' && isBr o) (Aud.kid n true o) (Aud.under n true row) B page rc rs D:Except (Nat × Int) (PT × Nat))=y
     cases y with
     | error e=>rfl
     | ok y =>
      obtain⟨r,H⟩:=y;simp only
      split <;> rfl
theorem side_ok {c:Cx}{T:PT}{row:Bs}{o:PT}(H:c.Ok)(I:Here c T n row at' o)(J:n<256)(b:Bool){D page L m E:Nat}{cs:Bs}{u:PT}(B:c.fresh<=m/\m<=4096)
  (h:(if D=0 then .ok (.nil,m) else thr c.s.width (ndsP c.pg) c.fresh f (n+1) (at' && isBr o) (Aud.kid n b o) (Aud.under n b row) D page L cs m:Except (Nat × Int) (PT × Nat))=.ok (u,E)):u.Wf (n+1)/\c.fresh<=E/\E<=4096:=by
 by_cases e:D=0
 ·rw[if_pos e]at h;cases h;exact⟨trivial,B⟩
 ·rw[if_neg e]at h
  have A:=I.kid J b;have g:=thr_ok (ndOk H) A.hn A.hrow A.wf A.st A.lt B.1 h A.ents;exact⟨g.1,kC B.1 g.2.2.2.2.2.2.2.2.2,thr_bound (fun p n M=>pg_lt H M) B.2 h⟩
theorem stPlaces:qXh prog 217=some [(0,1),(1,1),(2,1),(3,32)]:=x9
theorem bldSt {page by' count:Nat}{sum:Bs}(h:sum.length=32):bldO prog 217 [(0,.int .i64 (page:Nat)),(1,.int .i64 (by':Nat)),(2,.int .i64 (count:Nat)),(3,dg sum)]=some (.agg (stC page by' count sum).toArray):=by
 rw[qJp zero217 stPlaces (c:=(stC 0 0 0 z32).toArray) x9];have B:=qJb (ps:=fun i=>[(0,1),(1,1),(2,1),(3,32)][i]?) (i:=0) (o:=0) (a:=[]) (r:=(stC 0 0 0 z32).drop 1) (u:=.int .i64 0) (v:=.int .i64 (page:Nat)) (rest:=[(1,.int .i64 (by':Nat)),(2,.int .i64 (count:Nat)),(3,dg sum)]) rfl rfl rfl;have D:=qJb (ps:=fun i=>[(0,1),(1,1),(2,1),(3,32)][i]?) (i:=1) (o:=1) (a:=[.int .i64 (page:Nat)]) (r:=(stC 0 0 0 z32).drop 2) (u:=.int .i64 0) (v:=.int .i64 (by':Nat)) (rest:=[(2,.int .i64 (count:Nat)),(3,dg sum)]) rfl rfl rfl;have E:=qJb (ps:=fun i=>[(0,1),(1,1),(2,1),(3,32)][i]?) (i:=2) (o:=2) (a:=[.int .i64 (page:Nat),.int .i64 (by':Nat)]) (r:=(stC 0 0 0 z32).drop 3) (u:=.int .i64 0) (v:=.int .i64 (count:Nat)) (rest:=[(3,dg sum)]) rfl rfl rfl;have A:=qKa (ps:=fun i=>[(0,1),(1,1),(2,1),(3,32)][i]?) (i:=3) (o:=3) (n:=32) (a:=[.int .i64 (page:Nat),.int .i64 (by':Nat),.int .i64 (count:Nat)]) (m:=z32.map u8) (r:=[]) (vs:=sum.map u8) (rest:=[]) rfl rfl sm (by simp[h]);rw[qXq,z4,z4]at A;exact congrArg (Option.map vG) (((B.trans D).trans E).trans A)
def SdQ (c:Cx)(D:World)(page n:Nat)(row:Bs)(H:List Value)(b:Bool)(rows:List (RK × Value))(lvs:List (Bs × Value))(r:Except (Nat × Int) (PT × Nat))(I J L M E:Value)(w:World):Prop :=
 I=pt c.pb 0/\J=.int .i64 (page:Nat)/\L=pt D.heap.size 0/\M=pt (D.heap.size+1) 0 /\
  match r with
  | .error e=>E=.bool true/\ErrQ c w e
  | .ok (t,m)=>E=.bool false/\Fr (PaB c) D w/\w.heap[D.heap.size]?=some (.cells H.toArray 78 (0,0))/\w.heap[D.heap.size+1]?=some (.cells (rwC n row).toArray 158 (0,0))/\∃ A B,PassM c w m A B/\RowsIn (n+1) (Aud.under n b row) t rows A/\LvsIn t lvs B
end A
end
section
namespace A
open Aud
section
variable {c:Cx} {w w':World} {next:Nat} {rows:List (RK × Value)} {lvs:List (Bs × Value)}
def ThF (c:Cx)(T:PT)(f n:Nat):Prop:=∀ {w:World} {next:Nat} {rows:List (RK × Value)} {lvs:List (Bs × Value)} {row:Bs} {at':Bool} {o:PT} (page by' count:Nat) {sum:Bs},PassM c w next rows lvs->Here c T n row at' o->c.fresh<=next->next<=4096->sum.length=32 ->
 Fn prog 126 #[pt c.pb 0,.agg (stC page by' count sum).toArray,.agg (rwC n row).toArray] w fun x w'=>ThQ c w n row rows lvs (thr c.s.width (ndsP c.pg) c.fresh f n at' o row page by' count sum next) x w'
theorem likeM (h:PassM c w next rows lvs)(J:c.Ok){T:PT}{row:Bs}{o:PT}(L:Here c T n row at' o)(B D:Nat):∃ (A:List Value) (ok:Bool), lookO prog 68 w (.map (some c.mn)) (.int .i64 ((Aud.rowAt 0 Aud.zrow T (n, row)).getD 0:Nat))=some (.agg A.toArray, ok)/\A.length=102/\A.all one=true /\
  ((∃ a b:Nat,A[0]?=some (.int .i64 2)/\A[1]?=some (.int .i64 (a:Nat))/\A[2]?=some (.int .i64 (b:Nat))/\((a=B/\b=D) ↔ (at'=true/\likeB B D o=true)))∨∃ H:Int,A[0]?=some (.int .i64 H)/\(H == 2)=false/\¬ (at'=true/\likeB B D o=true)):=by
 have O:∀ {q:Nat},q=0->¬ (at'=true/\likeB B D o=true)->∃ (A:List Value) (ok:Bool),lookO prog 68 w (.map (some c.mn)) (.int .i64 (q:Nat))=some (.agg A.toArray,ok)/\A.length=102/\A.all one=true /\
  ((∃ a b:Nat,A[0]?=some (.int .i64 2)/\A[1]?=some (.int .i64 (a:Nat))/\A[2]?=some (.int .i64 (b:Nat))/\((a=B/\b=D) ↔ (at'=true/\likeB B D o=true)))∨∃ H:Int,A[0]?=some (.int .i64 H)/\(H == 2)=false/\¬ (at'=true/\likeB B D o=true)):=fun {q} R U=>by
  subst R
  have V:ndsP c.pg 0=none:=by
   cases W:ndsP c.pg 0 with
   | none=>rfl
   | some nd=>have:=(J.hnd 0 nd (qJx.1 W)).1;omega
  exact⟨nd0,false,h.ndN J V,qQu z32l z32l z32l _,qXz _ _ _ _ _ _ _ _ rfl,.inr ⟨0,rfl,rfl,U⟩⟩
 have I:=L.pos.rows n row (xC _) ((qZx L.hn).2 fun _ _=>rfl);rw[I]
 cases at' with
 | false=>exact O rfl fun e=>by cases e.1
 | true =>
  rw[if_pos rfl]
  cases o with
  | nil=>exact O rfl fun e=>by cases e.2
  | leaf p k v =>
   have e:(Aud.rowAt n row (.leaf p k v) (n,row)).getD 0=p:=by unfold Aud.rowAt;rw[if_pos rfl];rfl
   rw[e];obtain⟨vv,M,N,_,E,_,_⟩:=h.ndS J (p:=p) (n:=.leaf k v) L.st;exact⟨_,_,M,qJm E _,ndA_one N,.inr ⟨1,rfl,rfl,fun e=>by cases e.2⟩⟩
  | br p l r =>
   have e:(Aud.rowAt n row (.br p l r) (n,row)).getD 0=p:=by unfold Aud.rowAt;rw[if_pos rfl];rfl
   rw[e];obtain⟨vv,M,N,_,E,_,_⟩:=h.ndS J (p:=p) L.st.1;refine⟨_,_,M,qJm E _,ndA_one N,.inl ⟨l.page,r.page,rfl,rfl,rfl,?_⟩⟩;simp[likeB]
def MdQ (c:Cx)(A:World)(page n:Nat)(row:Bs)(B:List Value)(rows:List (RK × Value))(lvs:List (Bs × Value))(m:Nat)(D E H I:Value)(w:World):Prop :=
 D=pt c.pb 0/\E=.int .i64 (page:Nat)/\H=pt A.heap.size 0/\I=pt (A.heap.size+1) 0/\Fr (PaB c) A w/\w.heap[A.heap.size]?=some (.cells B.toArray 78 (0,0))/\w.heap[A.heap.size+1]?=some (.cells (rwC n row).toArray 158 (0,0))/\PassM c w m rows lvs
theorem anewBr (h:PassM c w next rows lvs)(hk:c.Ok){T:PT}(hT:OldT c T){row:Bs}{o:PT}(Y:Here c T n row at' o){page M N lc rc:Nat}{ls rs:Bs}(hp:ndsP c.pg page=some (.br M N lc rc ls rs))(hn:n<256)(ov:one vv=true)(hf:c.fresh<=next)(b3:next<=4096)(ih:ThF c T f (n+1)) :
  Fn prog 163 #[pt c.pb 0,.int .i64 (page:Nat),.agg (ndA (.br M N lc rc ls rs) vv).toArray,.agg (rwC n row).toArray] w fun x w'=>ThQ c w n row rows lvs (newBr c f n at' o row page next M N lc rc ls rs) x w':=by
 refine go163 sm ?_;have B:=(hk.hnd page _ (qJx.1 hp)).2;obtain⟨W,hW,J,H,I,s1⟩:=qJq w (ndA (.br M N lc rc ls rs) vv).toArray 78 (rwC n row).toArray 158;have A:=h.fr0 J;have lP:∀ {b:Nat},PaB c b->b<w.heap.size:=h.lt;simp -implicitDefEqProofs only[go_sem,j7,vS,yU,jV,Tryz.f163,hW];unfold newBr;generalize hl:(if M=0 then Except.ok (PT.nil,next) else thr c.s.width (ndsP c.pg) c.fresh f (n+1) (at' && isBr o) (Aud.kid n false o) (Aud.under n false row) M page lc ls next:Except (Nat × Int) (PT × Nat))=L;refine qXg (Q:=fun e E D=>e=.normal/\SdQ c w page n row (ndA (.br M N lc rc ls rs) vv) false rows lvs L (E 0) (E 1) (E 6) (E 7) (E 30) D) _ (fun e E D=>?_) ?_
 ·rintro⟨rfl,Z⟩
  rw[thenQ_normal];clear A H I J s1 hW W;obtain⟨e0,e1,e6,e7,Z⟩:=Z
  cases L with
  | error e =>
   obtain⟨a5,Z⟩:=Z;simp -implicitDefEqProofs only[go_sem,a5];exact⟨rfl,Z⟩
  | ok y =>
  obtain⟨l,m1⟩:=y;obtain⟨a5,J,H,I,O,a0,A,b5,b6⟩:=Z;have a6:=side_ok hk Y hn false ⟨hf,b3⟩ hl;simp -implicitDefEqProofs only[go_sem,a5];generalize hr:(if N=0 then Except.ok (PT.nil,m1) else thr c.s.width (ndsP c.pg) c.fresh f (n+1) (at' && isBr o) (Aud.kid n true o) (Aud.under n true row) N page rc rs m1:Except (Nat × Int) (PT × Nat))=R;refine qXg (Q:=fun e E D=>e=.normal/\SdQ c w page n row (ndA (.br M N lc rc ls rs) vv) true O a0 R (E 0) (E 1) (E 6) (E 7) (E 48) D) _ (fun e E D=>?_) ?_
  ·rintro⟨rfl,Z⟩
   rw[thenQ_normal];clear A H I J e0 e1 e6 e7 a5;obtain⟨e0,e1,e6,e7,Z⟩:=Z
   cases R with
   | error e =>
    obtain⟨a7,Z⟩:=Z;simp -implicitDefEqProofs only[go_sem,a7];exact⟨rfl,Z⟩
   | ok y =>
   obtain⟨r,m2⟩:=y;obtain⟨a7,J,H,I,a3,a8,A,b7,b8⟩:=Z;have b9:=side_ok hk Y hn true a6.2 hr;obtain⟨d0,d1,d2,d3,d4,d5,d6⟩:=rdBr B.2.1 B.2.2 H;have b4:((2:Int) == 1)=false:=rfl;simp -implicitDefEqProofs only[go_sem,j7,jV,a7,e6,d0,b4];obtain⟨mc,ok,lm,ml,mo,mb⟩:=likeM A hk Y M N;refine qXg (Q:=fun e E D=>e=.normal/\MdQ c w page n row (ndA (.br M N lc rc ls rs) vv) a3 a8 m2 (E 0) (E 1) (E 6) (E 7) D/\∃ b,E 12=pt b 0/\D.heap[b]?=some (.cells mc.toArray 78 (0,0))) _ (fun e E D=>?_) ?_
   ·rintro⟨rfl,hM,b,a9,kb⟩
    rw[thenQ_normal];refine qXg (Q:=fun e E D=>e=.normal/\MdQ c w page n row (ndA (.br M N lc rc ls rs) vv) a3 a8 m2 (E 0) (E 1) (E 6) (E 7) D/\E 9=.bool (decide (at'=true/\likeB M N o=true))) _ (fun e E D=>?_) ?_
    ·
     rintro⟨rfl,hM,e9⟩;rw[thenQ_normal];clear A H I J e0 e1 e6 e7 a7 d0 d1 d2 d3 d4 d5 d6 lm;obtain⟨e0,e1,e6,e7,J,H,I,A⟩:=hM;have c6:∀ {b:Nat},PaB c b->b<w.heap.size:=lP;obtain⟨p0,_,_,_,_,_,_,_,_,p9⟩:=A.rds;have nx:((page:Int) != (m2:Int))=decide (page≠m2):=natne page m2;have wi:=iSu (i:=m2)
     by_cases hx:page=m2
     ·rw[decide_eq_false fun e=>e hx]at nx
      by_cases hB:at'=true/\likeB M N o=true
      ·rw[decide_eq_true hB]at e9
       simp -implicitDefEqProofs only[go_sem,j7,bSe,jV,e0,e1,e9,p9,nx,p0];refine qQa pl44 ((A.find hk page 172).mono ?_);rintro _ w9 ⟨rfl,e9⟩;simp -implicitDefEqProofs only[go_sem];rw[if_neg fun h=>h.2 hB];exact⟨rfl,e9⟩
      ·rw[decide_eq_false hB]at e9
       have q3:wrO prog 3 D c.pb 4 (.int .i64 ((m2+1:Nat):Int))=some (put D c.pb (.cells (paC c (m2+1)) 213 (0,0))):=wr1 sz3 rfl A.pass (show 4<5 by decide);simp -implicitDefEqProofs only[go_sem,j7,yX,bSe,jV,e0,e1,e9,p9,nx,wi,q3];have k3:=qQd (o:=.cells (paC c (m2+1)) 213 (0,0)) A.pass;have f3:Fr (fun b=>b=c.pb) D (put D c.pb (.cells (paC c (m2+1)) 213 (0,0))):=(Fr.refl _ _).put (b:=c.pb) _ (fun _=>rfl);have h3:=A.step hk (m2+1) f3 k3;have g1:=f3.at H fun e=>by have:=lP (b:=c.pb) (.inr (.inl rfl));omega
       have g2:=f3.at I fun e=>by have:=lP (b:=c.pb) (.inr (.inl rfl));omega
       have f3:=J.trans (f3.mono (G:=PaB c) fun _ _ e=>.inr (.inl e));generalize put D c.pb (.cells (paC c (m2+1)) 213 (0,0))=W3 at *;obtain⟨_,_,x2,_,x4,_⟩:=h3.rds;obtain⟨_,_,t2⟩:=rdRw Y.hrow.1 g2;have h3:=h3.fr0 (Fr.refl _ _).drew;have f3:=f3.drew;have g1:W3.drew.heap[w.heap.size]?=_:=g1;obtain⟨ob,b0,h4,f4⟩:=h3.putR hk (n:=n) (r:=row) Y.hrow.1 page;have b0:putE prog 158 W3.heap[c.nR]? (.agg (rwC n row).toArray) (.int .i64 (page:Nat))=some ob:=b0;simp -implicitDefEqProofs only[go_sem,j7,jV,e1,e7,x2,x4,t2,map152,b0];have g1:=f4.at g1 fun e=>by have:=lP (b:=c.nR) (.inr (.inr (.inl rfl)));omega
       have f4:=f3.trans (f4.mono (G:=PaB c) fun _ _ e=>.inr (.inr (.inl e)));generalize put W3.drew c.nR ob=W5 at *;obtain⟨d0,_⟩:=rdBr B.2.1 B.2.2 g1;simp -implicitDefEqProofs only[go_sem,e6,d0,b4];rw[if_pos ⟨hx,hB⟩];exact⟨rfl,f4,_,_,h4,RowsIn.brL hn Y.hrow a6.1 b9.1 b5 b7,LvsIn.br b6 b8⟩
     ·rw[decide_eq_true hx]at nx
      simp -implicitDefEqProofs only[go_sem,j7,qXd,jV,e0,e1,p9,nx,p0];refine qQa pl44 ((A.find hk page 172).mono ?_);rintro _ w9 ⟨rfl,e9⟩;simp -implicitDefEqProofs only[go_sem];rw[if_neg fun h=>hx h.1];exact⟨rfl,e9⟩
    ·
     obtain⟨e0,e1,e6,e7,J,H,I,A⟩:=hM;obtain⟨d0,d1,d2,d3,d4,d5,d6⟩:=rdBr B.2.1 B.2.2 H
     rcases mb with ⟨a,b',m0,c0,c3,b1⟩ | ⟨kd,m0,c4,hB⟩
     ·have r0:rdO prog 3 D b 0=some (.int .i64 2):=rd1 agg3 kb (by rw[zJ];exact m0)
      have r1:rdO prog 3 D b 1=some (.int .i64 (a:Nat)):=rd1 agg3 kb (by rw[zJ];exact c0);have r2:rdO prog 3 D b 2=some (.int .i64 (b':Nat)):=rd1 agg3 kb (by rw[zJ];exact c3);have c7:((2:Int) == 2)=true:=rfl;have na:=nateq a M;have nb:=nateq b' N
      by_cases ha:a=M
      ·rw[decide_eq_true ha]at na
       simp -implicitDefEqProofs only[go_sem,j7,bSe,jV,e6,a9,r0,r1,r2,d1,d2,na,nb];refine⟨⟨by trivial,by trivial,by trivial,by trivial,J,H,I,A⟩,?_⟩
       congr 1
       exact decide_eq_decide.2 ⟨fun h=>b1.1 ⟨ha,h⟩,fun h=>(b1.2 h).2⟩
      ·rw[decide_eq_false ha]at na
       simp -implicitDefEqProofs only[go_sem,j7,bSe,qQq,jV,e6,a9,r0,r1,d1,na];refine⟨⟨by trivial,by trivial,by trivial,by trivial,J,H,I,A⟩,?_⟩;rw[decide_eq_false fun h=>ha (b1.2 h).1]
     ·have r0:rdO prog 3 D b 0=some (.int .i64 kd):=rd1 agg3 kb (by rw[zJ];exact m0)
      simp -implicitDefEqProofs only[go_sem,j7,qQq,jV,e6,a9,r0,c4];refine⟨⟨by trivial,by trivial,by trivial,by trivial,J,H,I,A⟩,?_⟩;rw[decide_eq_false hB]
   ·
    refine qXj (fun j=>j == 17) (.row [0,1,2,7,8,9,3,4,5,6,10,11,12,13,14,15,16,17,18]) rfl x9 x9 ?_;have J:=J.drew;have A:=A.fr0 (Fr.refl _ _).drew;have H:D.drew.heap[w.heap.size]?=_:=H;have I:D.drew.heap[w.heap.size+1]?=_:=I;have lm:lookO prog 68 D.drew (.map (some c.mn)) (.int .i64 ((Aud.rowAt 0 Aud.zrow T (n,row)).getD 0:Nat))=some (.agg mc.toArray,ok):=lm;generalize D.drew=W1 at *;obtain⟨p0,p1,p2,p3,p4,p5,p6,p7,p8,p9⟩:=A.rds;obtain⟨_,_,t2⟩:=rdRw Y.hrow.1 I;have lo:=A.oldRow hT (n:=n) Y.hrow.1;obtain⟨W2,c5,f2,k3,s2⟩:=qQl W1 nd0.toArray 78;have q3:wrO prog 78 W2 W1.heap.size 0 (.agg mc.toArray)=some (put W2 W1.heap.size (.cells mc.toArray 78 (0,0))):=qQo (by simp[ml];exact sz78) k3 (by simp[ml,qQu z32l z32l z32l]) (by simpa using mo);have fe:=f2.ext;simp -implicitDefEqProofs only[go_sem,j7,yX,yU,bSe,jV,qQk,OT.row,e0,e7,p0,p1,p3,p6,t2,lo,lm,qKk,c5,q3,fe,implies_true];have f3:=f2.put (b:=W1.heap.size) (.cells mc.toArray 78 (0,0)) fun h=>by omega
    exact⟨⟨by trivial,by trivial,by trivial,by trivial,J.trans (f3.mono fun _ _ h=>h.elim),f3.at H id,f3.at I id,A.fr0 f3⟩,_,rfl,qQd k3⟩
  ·
   refine qXj (fun j=>j == 14) (.row [0,1,2,3,4,5,7,8,10,6,9,11,12,13,14,15,16,17]) rfl x9 x9 ?_;have J:=J.drew;have A:=A.fr0 (Fr.refl _ _).drew;have H:D.drew.heap[w.heap.size]?=_:=H;have I:D.drew.heap[w.heap.size+1]?=_:=I;generalize D.drew=W1 at *;obtain⟨d0,d1,d2,d3,d4,d5,d6⟩:=rdBr B.2.1 B.2.2 H;obtain⟨_,_,t2⟩:=rdRw Y.hrow.1 I;have nl:((N:Int) != 0)=decide (N≠0):=natne N 0
   by_cases zl:N=0
   ·rw[decide_eq_false fun e=>e zl]at nl
    rw[if_pos zl]at hr;simp -implicitDefEqProofs only[go_sem,j7,yX,qQq,jV,OT.row,d2,nl,e0,e1,e6,e7];rw[<- hr];exact⟨by trivial,by trivial,by trivial,by trivial,by trivial,J,H,I,O,a0,A,RowsIn.nil (n+1) (Aud.under n true row) O,LvsIn.nil a0⟩
   ·rw[decide_eq_true zl]at nl
    rw[if_neg zl]at hr;have bs:=bldSt (page:=N) (by':=page) (count:=rc) B.2.2;simp -implicitDefEqProofs only[go_sem,j7,yX,bSe,jV,OT.row,d2,nl,d4,d6,bs,t2,e0,e1,e6,e7];refine qQc pl185 ((rowUnder W1 n hn Y.hrow.1 1 j0).mono ?_);rintro _ w6 ⟨rfl,f6⟩;refine⟨fun _=>f6.ext,?_⟩;rw[show Aud.under n ((1:Nat) == 1) row=Aud.under n true row from rfl];simp -implicitDefEqProofs only[go_sem,j7,bSe];refine qQc pl126 ((ih N page rc (A.fr0 f6) (Y.kid hn true) a6.2.1 a6.2.2 B.2.2).mono ?_);rintro x w7 U;rw[hr]at U;refine⟨(fun h=>by cases h),?_⟩
    cases hR:R with
    | error e =>
     rw[hR]at U;obtain⟨rfl,U⟩:=U;simp -implicitDefEqProofs only[go_sem,j7,yX,bSe,xH];exact⟨by trivial,by trivial,by trivial,by trivial,by trivial,U⟩
    | ok y =>
     obtain⟨t,m⟩:=y;rw[hR]at U;obtain⟨rfl,f7,V,a4,h7,rr,ll⟩:=U;simp -implicitDefEqProofs only[go_sem,j7,yX,bSe,y8];exact⟨by trivial,by trivial,by trivial,by trivial,by trivial,(J.trans (f6.mono fun _ _ h=>h.elim)).trans f7,f7.at (f6.at H id) fun e=>by have:=lP e;omega,f7.at (f6.at I id) fun e=>by have:=lP e;omega,V,a4,h7,rr,ll⟩
 ·
  refine qXj (fun j=>j == 14) (.row [0,1,2,3,4,5,7,8,10,6,9,11,12,13,14,15,16,17]) rfl x9 x9 ?_;have J:=(J.mono (G:=PaB c) fun _ _ h=>h.elim).drew;have A:=A.fr0 (Fr.refl _ _).drew;have H:W.drew.heap[w.heap.size]?=_:=H;have I:W.drew.heap[w.heap.size+1]?=_:=I;generalize W.drew=W1 at *;obtain⟨d0,d1,d2,d3,d4,d5,d6⟩:=rdBr B.2.1 B.2.2 H;obtain⟨_,_,t2⟩:=rdRw Y.hrow.1 I;have nl:((M:Int) != 0)=decide (M≠0):=natne M 0
  by_cases zl:M=0
  ·rw[decide_eq_false fun e=>e zl]at nl
   rw[if_pos zl]at hl;simp -implicitDefEqProofs only[go_sem,j7,yX,qQq,jV,OT.row,d1,nl];rw[<- hl];exact⟨by trivial,by trivial,by trivial,by trivial,by trivial,J,H,I,rows,lvs,A,RowsIn.nil (n+1) (Aud.under n false row) rows,LvsIn.nil lvs⟩
  ·rw[decide_eq_true zl]at nl
   rw[if_neg zl]at hl;have bs:=bldSt (page:=M) (by':=page) (count:=lc) B.2.1;simp -implicitDefEqProofs only[go_sem,j7,yX,bSe,jV,OT.row,d1,nl,d3,d5,bs,t2];refine qQc pl185 ((rowUnder W1 n hn Y.hrow.1 0 j0).mono ?_);rintro _ w6 ⟨rfl,f6⟩;refine⟨fun _=>f6.ext,?_⟩;rw[show Aud.under n ((0:Nat) == 1) row=Aud.under n false row from rfl];simp -implicitDefEqProofs only[go_sem,j7,bSe];refine qQc pl126 ((ih M page lc (A.fr0 f6) (Y.kid hn false) hf b3 B.2.1).mono ?_);rintro x w7 U;rw[hl]at U;refine⟨(fun h=>by cases h),?_⟩
   cases hR:L with
   | error e =>
    rw[hR]at U;obtain⟨rfl,U⟩:=U;simp -implicitDefEqProofs only[go_sem,j7,yX,bSe,xH];exact⟨by trivial,by trivial,by trivial,by trivial,by trivial,U⟩
   | ok y =>
    obtain⟨t,m⟩:=y;rw[hR]at U;obtain⟨rfl,f7,V,a4,h7,rr,ll⟩:=U;simp -implicitDefEqProofs only[go_sem,j7,yX,bSe,y8];exact⟨by trivial,by trivial,by trivial,by trivial,by trivial,(J.trans (f6.mono fun _ _ h=>h.elim)).trans f7,f7.at (f6.at H id) fun e=>by have:=lP e;omega,f7.at (f6.at I id) fun e=>by have:=lP e;omega,V,a4,h7,rr,ll⟩
end
end A
end
section
namespace A
open Aud
theorem rowAt_self (n:Nat)(row:Bs)(o:PT):(Aud.rowAt n row o (n,row)).getD 0=o.page:=by
 cases o with
 | nil=>rfl
 | leaf p k v=>unfold Aud.rowAt;rw[if_pos rfl];rfl
 | br p l r=>unfold Aud.rowAt;rw[if_pos rfl];rfl
theorem Here.rowOf {c:Cx}{T:PT}{n:Nat}{row:Bs}{at':Bool}{o:PT}(h:Here c T n row at' o):(Aud.rowAt 0 Aud.zrow T (n,row)).getD 0=rowOf at' o:=by
 rw[h.pos.rows n row (xC _) ((qZx h.hn).2 fun _ _=>rfl)]
 cases at' with
 | false=>rfl
 | true=>exact rowAt_self n row o
theorem Here.lfOf {c:Cx}{T:PT}{n:Nat}{row:Bs}{at':Bool}{o:PT}(h:Here c T n row at' o){k:Bs}(A:n<=common k row):(lfAt T k).getD 0=lfOf k o:=by
 rw[h.pos.lvs k A,lfAt_of h.wf]
def TrS (c:Cx)(A:World)(B:List Value)(n:Nat)(row:Bs)(D:List Value)(E H I J:Value)(w:World):Prop :=
 E=pt c.pb 0/\H=pt A.heap.size 0/\I=pt (A.heap.size+1) 0/\∃ b,J=pt b 0/\A.heap.size<=b/\w.heap[b]?=some (.cells D.toArray 78 (0,0))/\w.heap[A.heap.size]?=some (.cells B.toArray 217 (0,0))/\w.heap[A.heap.size+1]?=some (.cells (rwC n row).toArray 158 (0,0))
theorem TrS.fr {c:Cx}{A w w':World}{D E:List Value}{row:Bs}{H I J L:Value}(h:TrS c A D n row E H I J L w)(f:Fr F w w')(B:∀ b,F b->b<A.heap.size):TrS c A D n row E H I J L w':=by
 obtain⟨a,b,d,M,e,N,O,R,T⟩:=h;exact⟨a,b,d,M,e,N,f.at O fun e=>by have:=B _ e;omega,f.at R fun e=>by have:=B _ e;omega,f.at T fun e=>by have:=B _ e;omega⟩
theorem PassM.drew {c:Cx}{next:Nat}{rows:List (RK × Value)}{lvs:List (Bs × Value)}(h:PassM c w next rows lvs):PassM c w.drew next rows lvs:=h.fr0 (Fr.refl _ _).drew
theorem PassM.off {c:Cx}{next:Nat}{rows:List (RK × Value)}{lvs:List (Bs × Value)}(h:PassM c w next rows lvs)(A:w.heap[b]?=some (.cells cs el (0,0)))(B:el≠73)(D:el≠213):¬ PaB c b:=by
 obtain⟨fv,bv,E,_⟩:=h.sg;obtain⟨_,_,H,_⟩:=h.nowR;obtain⟨_,_,I,_⟩:=h.nowL;rintro (rfl | rfl | rfl | rfl)
 ·rw[E.row]at A;cases A;exact B rfl
 ·rw[h.pass]at A;cases A;exact D rfl
 ·rw[H]at A;cases A
 ·rw[I]at A;cases A
theorem PassM.nwb {c:Cx}{next:Nat}{rows:List (RK × Value)}{lvs:List (Bs × Value)}(h:PassM c w next rows lvs){x:Bs}(A:NwB c.u w vv x)(f:Fr (PaB c) w w'):NwB c.u w' vv x:=A.fr f fun b B=>by
 rcases A.own with ⟨rfl,_⟩ | ⟨E,H,cap,c',rfl,D,_⟩
 ·cases B
 ·cases B;exact h.off D j0 j0
theorem look_drew {t:TypeId}{m k:Value}:lookO prog t w.drew m k=lookO prog t w m k:=rfl
theorem through {c:Cx}(Z:c.Ok){T:PT}(hT:OldT c T):∀ (f n:Nat),f+n=257->ThF c T f n:=by
 intro f
 induction f with
 | zero =>
  intro n e;unfold ThF;intro w next rows lvs row at' o page by' count sum h U hf b3 hsum
  exact absurd U.hn x8
 | succ f b4 =>
  intro n e;have ih:ThF c T f (n+1):=b4 (n+1) x8;unfold ThF;intro w next rows lvs row at' o page by' count sum h U hf b3 hsum
  refine go126 sm ?_;have lP:∀ {b:Nat},PaB c b->b<w.heap.size:=h.lt;obtain⟨W,hW,f1,k1,k2,s1⟩:=qJq w (stC page by' count sum).toArray 217 (rwC n row).toArray 158;have E:=h.fr0 f1;have ls:=qQm (P:=prog) (t:=217) agg217 sz217 k1 (by simp[stC,hsum]);obtain⟨_,_,t2⟩:=rdRw U.hrow.1 k2;simp only[go_sem,j7,vS,yU,jV,Tryz.f126,hW,ls,t2];refine qQa pl161 ((links E Z U.hrow.1 page by' count sum).mono ?_);rintro _ w3 ⟨rfl,f3⟩;have h3:=E.fr0 f3;have k1:=f3.at k1 id;have k2:=f3.at k2 id;have f3:=f1.trans f3;clear E ls t2 f1;rw[thr_part]
  cases hl:Aud.linked (ndsP c.pg) n row page by' count with
  | none =>
   have b1:rdO prog 3 w3 w.heap.size 1=some (.int .i64 (by':Nat)):=rd1 agg3 k1 rfl;obtain⟨p0,_⟩:=h3.rds;have c1:(none:Option Nd).isSome=false:=rfl;simp only[go_sem,j7,yX,xH,jV,c1,p0,b1];refine qQa pl44 (((h3.fr0 (Fr.refl _ _).drew).find Z by' 170).mono ?_);rintro _ w9 ⟨rfl,e9⟩;simp only[go_sem];exact⟨rfl,e9⟩
  | some nd =>
   obtain⟨hp,hby,a6⟩:=qVv hl;have c1:(some nd).isSome=true:=rfl;simp only[go_sem,y8,c1];refine qXg (Q:=fun e O V=>e=.normal/\No w V/\∃ vv,TrS c w (stC page by' count sum) n row (ndA nd vv) (O 0) (O 4) (O 5) (O 7) V/\one vv=true/\NwB c.u V vv (ndVal nd)) _ (fun e O V=>?_) ?_
   ·rintro⟨rfl,f1,vv,hS,ov,nb⟩
    rw[thenQ_normal];have E:=h.fr0 f1;have H:=(Z.hnd page _ (qJx.1 hp)).2;have c0:=(Z.hnd page _ (qJx.1 hp)).1;have c3:=f1.mono (G:=PaB c) fun _ _ h=>h.elim;refine qZf (fun O V=>∃ t m,part c f n at' o row page by' next nd=.ok (t,m)/\TrS c w (stC page by' count sum) n row (ndA nd vv) (O 0) (O 4) (O 5) (O 7) V/\NwB c.u V vv (ndVal nd)/\Fr (PaB c) w V/\∃ A D,PassM c V m A D/\RowsIn n row t rows A/\LvsIn t lvs D) ?_ ?_
    ·obtain⟨e0,e4,e5,b7,e7,c4,k7,k4,k5⟩:=id hS
     have b0:rdO prog 3 V w.heap.size 0=some (.int .i64 (page:Nat)):=rd1 agg3 k4 rfl;have b1:rdO prog 3 V w.heap.size 1=some (.int .i64 (by':Nat)):=rd1 agg3 k4 rfl;obtain⟨p0,p1,p2,p3,p4,p5,p6,p7,p8,p9⟩:=E.rds;obtain⟨_,_,t2⟩:=rdRw U.hrow.1 k5;have R:=natlt page c.fresh;have lo:=E.oldRow hT (n:=n) U.hrow.1;rw[U.rowOf]at lo;have a4:=nateq (rowOf at' o) page;have ln:=qQm (P:=prog) (t:=78) agg78 sz78 k7 (by simp[qJm H])
     have a3:∀ {J B L t m}, part c f n at' o row page by' next nd=.ok (t, m)->Fr (PaB c) V J->PassM c J m B L->RowsIn n row t rows B->LvsIn t lvs L ->
       ∃ t m,part c f n at' o row page by' next nd=.ok (t,m)/\TrS c w (stC page by' count sum) n row (ndA nd vv) (O 0) (O 4) (O 5) (O 7) J/\NwB c.u J vv (ndVal nd)/\Fr (PaB c) w J/\∃ A D,PassM c J m A D/\RowsIn n row t rows A/\LvsIn t lvs D :=
      fun {J B L t m} I Y h5 rr ll=>⟨t,m,I,hS.fr Y (fun _ e=>lP e),E.nwb nb Y,c3.trans Y,B,L,h5,rr,ll⟩
     cases nd with
     | leaf k v =>
      obtain⟨d0,d1,d2,d3,d4⟩:=rdLf H.1 k7;have c7:((1:Int) == 1)=true:=rfl
      by_cases M:page<c.fresh
      ·rw[decide_eq_true M]at R
       have ll:=E.oldLf hT H.1;rw[U.lfOf a6.2]at ll;have a7:=nateq (lfOf k o) page
       by_cases N:lfOf k o=page
       ·rw[decide_eq_true N]at a7
        simp only[go_sem,j7,yX,bSe,y8,jV,e0,e4,e5,e7,b0,p8,R,p3,p6,t2,look_drew,lo,a4,d0,p7,d3,ll,a7];refine qQa pl162 ((keep Z (t:=.leaf page k v) (dgf:=dgT c.s.width) E.drew.drew.drew hp c0 (fun h=>by cases h) U.hn U.hrow).mono ?_);rintro _ J ⟨rfl,Y,B,L,h5,rr,ll⟩;simp only[go_sem,j7];exact a3 ((if_pos M).trans (if_pos N)) (((Fr.refl _ _).drew.drew.drew).trans Y) h5 rr ll
       ·rw[decide_eq_false N]at a7
        simp only[go_sem,j7,yX,bSe,xH,jV,e0,e4,e5,e7,b0,p8,R,p3,p6,t2,look_drew,lo,a4,d0,p7,d3,ll,a7,p0,b1];refine qQa pl44 ((E.drew.drew.drew.drew.find Z by' 172).mono ?_);rintro _ w9 ⟨rfl,e9⟩;simp only[go_sem];rw[show part c f n at' o row page by' next (.leaf k v)=.error (by',172) from (if_pos M).trans (if_neg N)];exact⟨rfl,e9⟩
      ·rw[decide_eq_false M]at R
       simp only[go_sem,j7,yX,jV,e0,e4,e5,e7,b0,p8,R,ln,t2];refine qQa pl163 ((anewLf E.drew Z hT U hp a6.2 ov (nb.by.fr0 (Fr.refl _ _).drew) x8).mono ?_);rintro x J hq;have I:part c f n at' o row page by' next (.leaf k v)=newLf c o page next k v:=if_neg M
       cases hR:newLf c o page next k v with
       | error e =>
        rw[hR]at hq I;obtain⟨rfl,hq⟩:=hq;simp only[go_sem,xH];rw[I];exact⟨rfl,hq⟩
       | ok y =>
        obtain⟨t,m⟩:=y;rw[hR]at hq I;obtain⟨rfl,Y,B,L,h5,rr,ll⟩:=hq;simp only[go_sem,j7,y8];exact a3 I ((Fr.refl _ _).drew.trans Y) h5 rr ll
     | br lp rp lc rc ls rs =>
      obtain⟨d0,d1,d2,d3,d4,d5,d6⟩:=rdBr H.2.1 H.2.2 k7;have b5:((2:Int) == 1)=false:=rfl
      by_cases M:page<c.fresh
      ·rw[decide_eq_true M]at R
       by_cases N:rowOf at' o=page
       ·rw[decide_eq_true N]at a4
        simp only[go_sem,j7,yX,y8,jV,e0,e4,e5,e7,b0,p8,R,p3,p6,t2,look_drew,lo,a4,d0,b5]
        have a9:o.page=page:=by
         cases at' with
         | true=>exact N
         | false=>have:0=page:=N;omega
        have b6:=keep Z (t:=o) (dgf:=dgT c.s.width) E.drew.drew U.st U.wf (fun h=>by rw[h]at a9;have:0=page:=a9;omega) U.hn U.hrow;rw[a9]at b6;refine qQa pl162 (b6.mono ?_);rintro _ J ⟨rfl,Y,B,L,h5,rr,ll⟩;simp only[go_sem,j7];exact a3 ((if_pos M).trans (if_pos N)) ((Fr.refl _ _).drew.drew.trans Y) h5 rr ll
       ·rw[decide_eq_false N]at a4
        simp only[go_sem,j7,yX,xH,jV,e0,e4,e5,e7,b0,p8,R,p3,p6,t2,look_drew,lo,a4,d0,b5,p0,b1];refine qQa pl44 ((E.drew.drew.drew.find Z by' 172).mono ?_);rintro _ w9 ⟨rfl,e9⟩;simp only[go_sem];rw[show part c f n at' o row page by' next (.br lp rp lc rc ls rs)=.error (by',172) from (if_pos M).trans (if_neg N)];exact⟨rfl,e9⟩
      ·rw[decide_eq_false M]at R
       simp only[go_sem,j7,yX,jV,e0,e4,e5,e7,b0,p8,R,ln,t2];refine qQa pl163 ((anewBr E.drew Z hT U hp a6.2 ov hf b3 ih).mono ?_);rintro x J hq;have I:part c f n at' o row page by' next (.br lp rp lc rc ls rs)=newBr c f n at' o row page next lp rp lc rc ls rs:=if_neg M
       cases hR:newBr c f n at' o row page next lp rp lc rc ls rs with
       | error e =>
        rw[hR]at hq I;obtain⟨rfl,hq⟩:=hq;simp only[go_sem,xH];rw[I];exact⟨rfl,hq⟩
       | ok y =>
        obtain⟨t,m⟩:=y;rw[hR]at hq I;obtain⟨rfl,Y,B,L,h5,rr,ll⟩:=hq;simp only[go_sem,j7,y8];exact a3 I ((Fr.refl _ _).drew.trans Y) h5 rr ll
    ·rintro O V ⟨t,m,I,⟨e0,e4,e5,b7,e7,c4,k7,k4,k5⟩,nb,f1,A,D,E,rr,ll⟩
     rw[I]
     have c5:(ndg c.s.width (256 - n) nd).length=32:=by
      cases nd with
      | leaf k v=>exact qKi _ _ _ _ _ (qZo _ _ _)
      | br lp rp lc rc ls rs=>exact qXp _ _ _
     simp only[go_sem];refine qXg (Q:=fun e O J=>e=.normal/\O 0=pt c.pb 0/\O 4=pt w.heap.size 0/\O 98=.bool (!(ndg c.s.width (256 - n) nd == sum))/\PassM c J m A D/\Fr (PaB c) w J/\J.heap[w.heap.size]?=some (.cells (stC page by' count sum).toArray 217 (0,0))) _ (fun e O V=>?_) ?_
     ·rintro⟨rfl,e0,e4,a0,E,f1,k4⟩
      rw[thenQ_normal];obtain⟨p0,_⟩:=E.rds;have b1:rdO prog 3 V w.heap.size 1=some (.int .i64 (by':Nat)):=rd1 agg3 k4 rfl
      by_cases hd:ndg c.s.width (256 - n) nd=sum
      ·rw[beq_iff_eq.2 hd]at a0
       have a0:O 98=.bool false:=a0;simp only[go_sem,a0];rw[if_pos hd];exact⟨rfl,f1,A,D,E,rr,ll⟩
      ·rw[beq_eq_false_iff_ne.2 hd]at a0
       have a0:O 98=.bool true:=a0;simp only[go_sem,j7,yX,jV,a0,e0,e4,p0,b1];refine qQa pl44 ((E.drew.find Z by' 171).mono ?_);rintro _ w9 ⟨rfl,e9⟩;simp only[go_sem];rw[if_neg hd];exact⟨rfl,e9⟩
     ·refine qXj (fun _=>false) (.one 0 (.one 1 (.one 2 (.one 5 (.one 9 (.one 3 (.one 4 (.one 6 (.one 7 (.two 8 (.row [10,11]) 10 (.row [8,11]))))))))))) rfl x9 x9 ?_
      have f1:=f1.drew;have E:=E.drew;have nb:=nb.fr0 (Fr.refl _ _).drew;have k4:V.drew.heap[w.heap.size]?=_:=k4;have k5:V.drew.heap[w.heap.size+1]?=_:=k5;have k7:V.drew.heap[b7]?=_:=k7;generalize V.drew=W1 at *;obtain⟨p0,_⟩:=E.rds;obtain⟨t0,_⟩:=rdRw U.hrow.1 k5;have ln:=qQm (P:=prog) (t:=78) agg78 sz78 k7 (by simp[qJm H]);have wi:IntKind.i64.wrap (256 - (n:Int))=((256 - n:Nat):Int):=by rw[qQr (by have:=U.hn;omega) x8];have:=U.hn;omega
      have a8:∀ W:World,W.heap[w.heap.size]?=some (.cells (stC page by' count sum).toArray 217 (0,0))->rdO prog 75 W w.heap.size 3=some (dg sum):=fun W k=>qKb (e:=217) (fz:=(0,0)) (a:=[.int .i64 (page:Nat),.int .i64 (by':Nat),.int .i64 (count:Nat)]) (m:=sum.map u8) (r:=[]) agg75 (by simp[hsum];exact sz75) (by simp[hsum]) (by rw[k,stC,z4]) rfl;have r1:=a8 W1 k4;have es:=eqDig c5 hsum;have c8:c.sb<w.heap.size:=lP (.inl rfl);obtain⟨fv,bv,hs,_,b8⟩:=E.srow
      have b9:Fn prog 164 #[pt c.sb 0,.agg (ndA nd vv).toArray,.int .i64 ((256 - n:Nat):Int)] W1 fun v w'=>v=dg (ndg c.s.width (256 - n) nd)/\Fr (fun b=>b=c.sb) W1 w'/\SRow c.u w' c.sb c.iv c.s c.mn c.mr c.cv c.vv fv (fun _=>False):=by
       have ht:Tabs W1:=Z.tabs.fr E.no fun _ _ h=>h;have h5:=Z.tabs.size
       cases nd with
       | leaf k v=>exact digestLf ht E.no.size (kC h5 Z.hsb) b8 (fun _ h=>h.elim) H.1 nb.by ov H.2 x8
       | br lp rp lc rc ls rs=>exact digestBr ht E.no.size (kC h5 Z.hsb) b8 (fun _ h=>h.elim) H.2.1 H.2.2 (by have:=a6.2;omega) x8
      have a3:∀ {J},Fr (fun b=>b=c.sb) W1 J->SRow c.u J c.sb c.iv c.s c.mn c.mr c.cv c.vv fv (fun _=>False)->PassM c J m A D/\Fr (PaB c) w J/\J.heap[w.heap.size]?=some (.cells (stC page by' count sum).toArray 217 (0,0)):=fun {J} Y a5=>⟨E.dig Z hs Y a5,f1.trans (Y.mono fun _ _ e=>.inl e),Y.at k4 fun e=>by omega⟩
      clear ih b4;simp only[go_sem,j7,jV,OT.row,e0,e4,e5,e7,p0,ln,t0,wi,r1];refine⟨?_,?_⟩
      ·refine qQc pl164 (b9.mono ?_);rintro _ J ⟨rfl,Y,a5⟩
       refine⟨(fun h=>by cases h),?_⟩;obtain⟨a,b,k⟩:=a3 Y a5;have r5:rdO prog 75 J w.heap.size 3=some (dg sum):=a8 J k;simp only[go_sem,j7,r5,es,eqg75];exact⟨e0,e4,a,b,k⟩
      ·refine qQc pl164 (b9.mono ?_);rintro _ J ⟨rfl,Y,a5⟩
       refine⟨(fun h=>by cases h),?_⟩;obtain⟨a,b,k⟩:=a3 Y a5;simp only[go_sem,j7,es,eqg75];exact⟨e0,e4,a,b,k⟩
   ·refine qXj (fun j=>j == 10) (.row [0,1,2,7,3,4,5,6,8,9,10,11]) rfl x9 x9 ?_
    have f3:=f3.drew;have h3:=h3.fr0 (Fr.refl _ _).drew;have k1:w3.drew.heap[w.heap.size]?=_:=k1;have k2:w3.drew.heap[w.heap.size+1]?=_:=k2;generalize w3.drew=W1 at *;obtain⟨p0,p1,_⟩:=h3.rds;have b0:rdO prog 3 W1 w.heap.size 0=some (.int .i64 (page:Nat)):=rd1 agg3 k1 rfl;obtain⟨vv,lk,ov,nb,H,_,_⟩:=h3.ndS Z hp;obtain⟨W2,c6,f2,k3,s2⟩:=qQl W1 nd0.toArray 78;have q3:wrO prog 78 W2 W1.heap.size 0 (.agg (ndA nd vv).toArray)=some (put W2 W1.heap.size (.cells (ndA nd vv).toArray 78 (0,0))):=qQo (by simp[qJm H];exact sz78) k3 (by simp[qJm H,qQu z32l z32l z32l]) (by simpa using ndA_one ov);have fe:=f2.ext;simp only[go_sem,j7,yX,yU,bSe,jV,qQk,OT.row,p0,p1,b0,lk,qKk,c6,q3,fe,implies_true];have f4:=f2.put (b:=W1.heap.size) (.cells (ndA nd vv).toArray 78 (0,0)) fun h=>by omega
    exact⟨f3.trans f4,vv,⟨rfl,rfl,rfl,W1.heap.size,rfl,by have:=f3.size;omega,qQd k3,f4.at k1 id,f4.at k2 id⟩,ov,nb.fr0 f4⟩
end A
end
section
namespace A
open Aud
structure LkOk (u:World) (sb:Nat) (iv:Value) (s:Sup) (pg:Nat->Option Pg):Prop where
 tabs:Tabs u
 hsb:u.heap.size<=sb
 hiv:∀ b,qQf iv=some b->b<u.heap.size
 hm:s.mark<=4096
 hpg:∀ p,s.mark<=p->pg p=none
 hnd:∀ p n,pg p=some (.nd n)->2<=p/\n.right
 hrc:∀ p r,pg p=some (.rc r)->2<=p/\r.right/\r.sum.length=32
def ShM (u w:World)(b:Nat)(t:PT):Prop:=∃ A B rows lvs,w.heap[b]?=some (.cells #[.map (some A),.map (some B)] 155 (0,0))/\u.heap.size<=b/\u.heap.size<=A/\u.heap.size<=B/\Mp encR okR w A rows/\Mp encK okK w B lvs /\
 (∀ key,findM rows key=enP (Aud.rowAt 0 Aud.zrow t key))/\∀ k,findM lvs k=enP (lfAt t k)
def VsM (u w:World)(vv:Value)(ts:List PT):Prop:=∃ ps:List Nat,NwR u w 156 1 vv (ps.map fun b=>[pt b 0])/\ps.length=ts.length/\∀ (i b:Nat) (t:PT),ps[i]?=some b->ts[i]?=some t->ShM u w b t
theorem ShM.fr {t:PT}(h:ShM u w b t)(f:Fr F w w')(E:∀ b c,w.heap[b]?=some (.cells c 155 (0,0))->¬ F b)(A:∀ b H n,w.heap[b]?=some (.map H n)->¬ F b):ShM u w' b t:=by
 obtain⟨I,J,rows,lvs,a,L,M,N,B,D,O,R⟩:=h;obtain⟨_,_,T,_⟩:=id B;obtain⟨_,_,U,_⟩:=id D;exact⟨I,J,rows,lvs,f.at a (E _ _ a),L,M,N,B.fr f (A _ _ _ T),D.fr f (A _ _ _ U),O,R⟩
section
variable {u w w':World} {sb:Nat} {iv:Value} {im:Bs} {s:Sup} {mn mr:Nat} {cv vv fv bv:Value} {nl rl:List (Nat × Value)} {pg:Nat->Option Pg} {k:Nat} {fs:List (Nat × Int)}
theorem rcAt_len (A:LkOk u sb iv s pg)(p:Nat):(rcAt pg p).sum.length=32:=by
 unfold rcAt;split
 ·rename_i r h;exact (A.hrc _ _ h).2.2
 ·simp
theorem rec_look (h:SgM u w sb iv im s mn mr cv vv fv bv nl rl pg s.mark fs)(E:LkOk u sb iv s pg)(p:Nat):∃ ok,lookO prog 69 w (.map (some mr)) (.int .i64 (p:Nat))=some (.agg (rcC (rcAt pg p)).toArray,ok):=by
 have A:=h.rcs.look keyN (k:=p) trivial map69 (z:=.agg (rcC rc00).toArray) x9;have B:=h.ra p
 have H:(if p<s.mark then pg p else none)=pg p:=by
  by_cases D:p<s.mark
  ·rw[if_pos D]
  ·rw[if_neg D,E.hpg p x8]
 rw[H]at B;unfold rcAt;split at B
 ·rename_i r e;rw[B]at A;rw[e];exact⟨_,A⟩
 ·rename_i e
  rw[B]at A;split
  ·rename_i r I;exact absurd I (e r)
  ·exact⟨_,A⟩
end
theorem allocV (w:World):∃ W, (((w.alloc (.cells #[.map none, .map none] 155)).alloc (.map #[] 0)).alloc (.map #[] 0)).alloc (.cells #[.map (some (w.heap.size+1)), .map (some (w.heap.size+1+1))] 155)=W/\No w W /\
  W.heap[w.heap.size]?=some (.cells #[.map none,.map none] 155 (0,0))/\W.heap[w.heap.size+1]?=some (.map #[] 0)/\W.heap[w.heap.size+2]?=some (.map #[] 0)/\W.heap[w.heap.size+3]?=some (.cells #[.map (some (w.heap.size+1)),.map (some (w.heap.size+1+1))] 155 (0,0))/\W.heap.size=w.heap.size+4:=by
 obtain⟨A,N,O,R,T⟩:=qQl w #[.map none,.map none] 155;rw[N];have H:No A (A.alloc (.map #[] 0)):=(Fr.refl _ _).alloc _;have I:(A.alloc (.map #[] 0)).heap[A.heap.size]?=some (.map #[] 0):=qQb _ _;have s2:(A.alloc (.map #[] 0)).heap.size=A.heap.size+1:=qQg _ _;generalize A.alloc (.map #[] 0)=B at *;have E:No B (B.alloc (.map #[] 0)):=(Fr.refl _ _).alloc _;have J:(B.alloc (.map #[] 0)).heap[B.heap.size]?=some (.map #[] 0):=qQb _ _;have s3:(B.alloc (.map #[] 0)).heap.size=B.heap.size+1:=qQg _ _;generalize B.alloc (.map #[] 0)=L at *;obtain⟨U,V,D,M,s4⟩:=qQl L #[.map (some (w.heap.size+1)),.map (some (w.heap.size+1+1))] 155;have Y:A.heap.size=w.heap.size+1:=T;have Z:B.heap.size=w.heap.size+2:=x8
 have e3:L.heap.size=w.heap.size+3:=x8
 rw[Y]at I;rw[Z]at J;rw[e3]at M;exact⟨U,V,((O.trans H).trans E).trans D,D.at (E.at (H.at R id) id) id,by rw[D.blk (w.heap.size+1) x8 id,E.blk (w.heap.size+1) x8 id];exact I,by rw[D.blk (w.heap.size+2) x8 id];exact J,M,x8⟩
theorem maxOne (a:Nat):maxL (.int .i64 1) [.int .i64 (a:Nat)]=some (.int .i64 ((max 1 a:Nat):Int)):=by
 show some (vU IntKind.i64 (if (a:Int) > 1 then (a:Int) else 1))=_
 congr 2
 split <;> omega
theorem chAt_lt {s:Sup}{pg:Nat->Option Pg}(B:LkOk u sb iv s pg)(i:Nat):chAt (chK pg s.mark) i<4096:=by
 unfold chAt;split
 ·omega
 ·rw[gDq]
  cases h:(chK pg s.mark)[i - 1]? with
  | none=>show 0<4096;omega
  | some x =>
   have A:=List.mem_of_getElem? h;unfold chK at A;have:=List.mem_range.1 (List.mem_filter.1 A).1;have:=B.hm;show x<4096;omega
theorem bldSh:bldO prog 155 []=some (.agg #[.map none,.map none]):=by
 unfold bldO;rw[zero155,places155];rfl
theorem bldSh2 (a b:Nat):bldO prog 155 [(0,.map (some a)),(1,.map (some b))]=some (.agg #[.map (some a),.map (some b)]):=by
 unfold bldO;rw[zero155,places155];rfl
theorem bldPa (sb A B f:Nat):bldO prog 213 [(0,pt sb 0),(1,pt A 0),(2,pt B 0),(3,.int .i64 (f:Nat))]=some (.agg #[pt sb 0,pt A 0,pt B 0,.int .i64 (f:Nat),.int .i64 0]):=by
 unfold bldO;rw[zero213,places213];rfl
structure LkM (u w:World) (sb:Nat) (iv:Value) (im:Bs) (s:Sup) (mn mr:Nat) (cv vv:Value) (nl rl:List (Nat × Value)) (pg:Nat->Option Pg) (fs:List (Nat × Int)) (ts:List PT):Prop where
 sg:∃ fv bv,SgM u w sb iv im s mn mr cv vv fv bv nl rl pg s.mark fs/\Blank u w s.width bv
 no:No u w
 vs:VsM u w vv ts
def ErrL (u:World)(sb:Nat)(iv:Value)(im:Bs)(s:Sup)(mn mr:Nat)(cv vv:Value)(nl rl:List (Nat × Value))(pg:Nat->Option Pg)(fs:List (Nat × Int))(w:World):Prop :=
 No u w/\∃ fv bv,SgM u w sb iv im s mn mr cv vv fv bv nl rl pg s.mark fs/\Blank u w s.width bv
section
variable {u w w':World} {sb:Nat} {iv:Value} {im:Bs} {s:Sup} {mn mr:Nat} {cv vv fv bv:Value} {nl rl:List (Nat × Value)} {pg:Nat->Option Pg} {k:Nat} {fs:List (Nat × Int)} {ts:List PT}
theorem VsM.fr0 (h:VsM u w vv ts)(f:No w w'):VsM u w' vv ts:=by
 obtain⟨ps,a,b,c⟩:=h;exact⟨ps,a.fr0 f,b,fun i A t B D=>(c i A t B D).fr f (fun _ _ _ h=>h) fun _ _ _ _ h=>h⟩
theorem LkM.fr0 (h:LkM u w sb iv im s mn mr cv vv nl rl pg fs ts)(f:No w w'):LkM u w' sb iv im s mn mr cv vv nl rl pg fs ts:=by
 obtain⟨fv,bv,A,B⟩:=h.sg;exact⟨⟨fv,bv,A.fr0 f,B.fr f fun _ _ _ _ _ h=>h⟩,h.no.trans f,h.vs.fr0 f⟩
theorem errFind (N:ErrL u sb iv im s mn mr cv vv nl rl pg fs w)(O:LkOk u sb iv s pg)(R:fs.length<=2 ^ 20)(p:Nat)(e:Int):Fn prog 44 #[pt sb 0,.int .i64 (p:Nat),.int .i64 e] w fun v w'=>v=.tuple #[]/\ErrL u sb iv im s mn mr cv vv nl rl pg (fs++[(p,e)]) w':=by
 obtain⟨D,fv,bv,I,E⟩:=N;have H:=I.fnd;refine (sight_find I D.size O.hiv p e R).mono ?_;rintro v w' ⟨rfl,f,J,L⟩
 have M:∀ {b},FvB sb fv b->u.heap.size<=b:=fun {b} E=>by
  rcases E with rfl | E
  ·exact I.hsb
  ·exact H.2.new b E
 refine⟨rfl,D.trans' f fun b A e=>by have:=M e;omega,J,bv,L,E.fr f fun b c' A _ _ e=>?_⟩
 rcases e with rfl | e
 ·rw[I.row]at A;cases A
 ·obtain⟨T,B⟩:=qQz H e;rw[A]at B;cases B
end
def V2 (A:World)(sb i p first:Nat)(r:Rc)(B D E H I:Value)(w:World):Prop :=
 B=pt sb 0/\D=.int .i64 (i:Nat)/\E=.int .i64 (p:Nat)/\I=.int .i64 (first:Nat)/\H=pt A.heap.size 0/\w.heap[A.heap.size]?=some (.cells (rcC r).toArray 80 (0,0))/\No A w
section
variable {u w w':World} {sb:Nat} {iv:Value} {im:Bs} {s:Sup} {mn mr:Nat} {cv vv fv bv:Value} {nl rl:List (Nat × Value)} {pg:Nat->Option Pg} {k:Nat} {fs:List (Nat × Int)}
def V9 (u A:World)(sb i p:Nat)(r:Rc)(J L M N O:Value)(H I B D E fresh next:Nat)(R T:Option Nat)(w:World):Prop :=
 J=pt sb 0/\L=.int .i64 (i:Nat)/\M=.int .i64 (p:Nat)/\N=pt A.heap.size 0/\O=pt H 0/\w.heap[H]?=some (.cells #[pt sb 0,pt I 0,pt B 0,.int .i64 (fresh:Nat),.int .i64 (next:Nat)] 213 (0,0))/\w.heap[I]?=some (.cells #[.map R,.map T] 155 (0,0)) /\
  w.heap[B]?=some (.cells #[.map (some D),.map (some E)] 155 (0,0))/\w.heap[D]?=some (.map #[] 0)/\w.heap[E]?=some (.map #[] 0)/\w.heap[A.heap.size]?=some (.cells (rcC r).toArray 80 (0,0))/\No A w/\A.heap.size<=H/\A.heap.size<=B/\A.heap.size<=D/\A.heap.size<=E/\D≠E/\B≠I
def OldM (A w:World)(t:PT)(B D:Option Nat)(ro:List (RK × Value))(lo:List (Bs × Value)):Prop :=
 MpO encR okR w B ro/\MpO encK okK w D lo/\(∀ key,findM ro key=enP (Aud.rowAt 0 Aud.zrow t key))/\(∀ k,findM lo k=enP (lfAt t k))/\(∀ b,B=some b->b<A.heap.size)/\∀ b,D=some b->b<A.heap.size
def VsR (u:World)(sb:Nat)(iv:Value)(im:Bs)(s:Sup)(mn mr:Nat)(cv vv:Value)(nl rl:List (Nat × Value))(pg:Nat->Option Pg)(fs:List (Nat × Int))(ts:List PT)(r:Except (Nat × Int) PT)(v:Value)(w:World):Prop :=
 match r with
 | .ok t=>v=.bool true/\∃ A,LkM u w sb iv im s mn mr cv A nl rl pg fs (ts++[t])
 | .error e=>v=.bool false/\ErrL u sb iv im s mn mr cv vv nl rl pg (fs++[e]) w
def ahead (ts:List PT):PT:=ts.getLastD .nil
theorem version {ts:List PT}(hL:LkM u w sb iv im s mn mr cv vv nl rl pg fs ts)(Z:LkOk u sb iv s pg)(hfs:fs.length<=2 ^ 20)(hi:i=ts.length+1)(r5:i<=4096)(h1:(rcAt pg (chAt (chK pg s.mark) 1)).first<=2 ^ 30)
  (l7:(ahead ts).Wf 0) (l8:Stands (dgT s.width) (pnOf pg) 0 (ahead ts)) (l9:(ahead ts).page<max 1 (chAt (chK pg s.mark) (i - 1))+1) :
  Fn prog 82 #[pt sb 0,.int .i64 (i:Nat)] w fun v w'=>VsR u sb iv im s mn mr cv vv nl rl pg fs ts (verP s.width pg (chK pg s.mark) i (ahead ts)) v w':=by
 refine go82 sm ?_;generalize U:chK pg s.mark=ch at *;obtain⟨fv,bv,h,r7⟩:=hL.sg;simp only[go_sem,j7,jV,Tryz.f82];refine qQa pl66 ((qVh h (i:=i) x8).mono ?_);rintro _ w1 ⟨e1,rfl⟩;rw[e1,U];simp only[go_sem];refine qXg (Q:=fun e A w1=>e=.normal/\V2 w sb i (chAt ch i) (rcAt pg (chAt ch 1)).first (rcAt pg (chAt ch i)) (A 0) (A 1) (A 5) (A 6) (A 7) w1) _ (fun e A w1=>?_) ?_
 ·rintro⟨rfl,hV⟩
  rw[thenQ_normal];have g4:((rcAt pg (chAt ch i)).first=(rcAt pg (chAt ch 1)).first/\(rcAt pg (chAt ch i)).ver=(if 0<(rcAt pg (chAt ch 1)).first then (rcAt pg (chAt ch 1)).first+i - 1 else i)/\(rcAt pg (chAt ch i)).prev=chAt ch (i - 1)/\(rcAt pg (chAt ch i)).skip=chAt ch (far i))->verP s.width pg ch i (ahead ts)=root1 s.width (pnOf pg) (max 1 (chAt ch (i - 1))+1) (ahead ts) (chAt ch i) (rcAt pg (chAt ch i)):=fun h=>if_pos h;have g5:¬ ((rcAt pg (chAt ch i)).first=(rcAt pg (chAt ch 1)).first/\(rcAt pg (chAt ch i)).ver=(if 0<(rcAt pg (chAt ch 1)).first then (rcAt pg (chAt ch 1)).first+i - 1 else i)/\(rcAt pg (chAt ch i)).prev=chAt ch (i - 1)/\(rcAt pg (chAt ch i)).skip=chAt ch (far i))->verP s.width pg ch i (ahead ts)=.error (chAt ch i,173):=fun h=>if_neg h;generalize r8:(rcAt pg (chAt ch 1)).first=first at *;generalize m0:rcAt pg (chAt ch i)=r at *;have b5:r.sum.length=32:=by rw[<- m0];exact rcAt_len Z _
  refine qZf (fun A w1=>V2 w sb i (chAt ch i) first r (A 0) (A 1) (A 5) (A 6) (A 7) w1/\A 8=.int .i64 (i:Nat)) ?_ ?_
  ·obtain⟨N,x1,e5,e7,e6,k,f⟩:=hV
   simp only[go_sem,j7,x1];exact And.intro ⟨by trivial,by trivial,by trivial,by trivial,by trivial,k,f⟩ trivial
  clear hV;rintro A w1 ⟨hV,e8⟩;refine qZf (fun A w1=>V2 w sb i (chAt ch i) first r (A 0) (A 1) (A 5) (A 6) (A 7) w1/\A 8=.int .i64 ((if 0<first then first+i - 1 else i:Nat):Int)) ?_ ?_
  ·obtain⟨N,x1,e5,e7,e6,k,f⟩:=hV
   have c9:decide ((first:Int) > 0)=decide (0<first):=sm
   by_cases hf:0<first
   ·rw[decide_eq_true hf]at c9
    have a1:IntKind.i64.wrap ((first:Int)+(i:Int))=((first+i:Nat):Int):=qXa (b:=i);have a2:IntKind.i64.wrap (((first+i:Nat):Int) - 1)=((first+i - 1:Nat):Int):=qXv (b:=1) x8 x8;simp only[go_sem,j7,e7,x1,c9,a1,a2];rw[if_pos hf];exact⟨⟨by trivial,by trivial,by trivial,by trivial,by trivial,k,f⟩,rfl⟩
   ·rw[decide_eq_false hf]at c9
    simp only[go_sem,j7,e7,c9];rw[if_neg hf];exact⟨⟨by trivial,by trivial,by trivial,by trivial,by trivial,k,f⟩,e8⟩
  clear hV e8;rintro A w1 ⟨hV,e8⟩;generalize g6:(if 0<first then first+i - 1 else i)=num at *;simp only[go_sem];refine qXg (Q:=fun e A w1=>e=.normal/\V2 w sb i (chAt ch i) first r (A 0) (A 1) (A 5) (A 6) (A 7) w1/\A 63=.bool (!decide (r.first=first/\r.ver=num/\r.prev=chAt ch (i - 1)/\r.skip=chAt ch (far i)))) _ (fun e A w1=>?_) ?_
  ·rintro⟨rfl,hV,V⟩
   rw[thenQ_normal];obtain⟨N,x1,e5,e7,e6,k,f⟩:=hV;have d0:=hL.fr0 f
   by_cases hc:r.first=first/\r.ver=num/\r.prev=chAt ch (i - 1)/\r.skip=chAt ch (far i)
   case neg =>
    rw[g5 hc];rw[decide_eq_false hc]at V;have V:A 63=.bool true:=V;simp only[go_sem,j7,V,N,e5];refine qQa pl44 ((errFind ⟨d0.no,d0.sg⟩ Z hfs (chAt ch i) 173).mono ?_);rintro _ w9 ⟨rfl,R⟩;simp only[go_sem];exact⟨rfl,R⟩
   rw[g4 hc];rw[decide_eq_true hc]at V;have V:A 63=.bool false:=V;clear g4 g5 hc g6 e8;have m3:IntKind.i64.wrap ((i:Int) - 1)=((i - 1:Nat):Int):=qXv (b:=1) x8 x8;generalize hp:chAt ch i=p at *;have r9:p<4096:=by rw[<- hp,<- U];exact chAt_lt Z _
   generalize g7:chAt ch (i - 1)=pp at *;have q7:pp<4096:=by rw[<- g7,<- U];exact chAt_lt Z _
   generalize m4:max 1 pp+1=fresh at *;refine qXg (Q:=fun e g9 w'=>e=.normal/\g9=A/\w'=w1) _ (fun e g9 w'=>?_) ?_
   ·rintro⟨rfl,rfl,rfl⟩
    rw[thenQ_normal];refine qZf (fun A D=>∃ E ob Y nR nL,V9 u w sb i p r (A 0) (A 1) (A 5) (A 6) (A 9) E ob Y nR nL fresh 0 none none D/\LkM u D sb iv im s mn mr cv vv nl rl pg fs ts) ?_ ?_
    ·have m5:=bldSh
     have h0:=bldSh2 (w'.heap.size+1) (w'.heap.size+1+1);obtain⟨W4,m6,f4,a1,a2,a3,a4,s4⟩:=allocV w';simp only[go_sem,j7,yU,N,x1,m5,h0,m6,m3];have h7:=d0.fr0 f4;obtain⟨s0,s9,h4,t0⟩:=h7.sg;refine qQa pl66 ((qVh h4 (i:=i - 1) x8).mono ?_);rintro _ D ⟨b6,rfl⟩;rw[b6,U,g7];have m7:=maxOne pp;have wf:IntKind.i64.wrap (((max 1 pp:Nat):Int)+1)=(fresh:Int):=by rw[<- m4];exact qXa (b:=1)
     have m9:=bldPa sb w'.heap.size (w'.heap.size+1+1+1) fresh;obtain⟨W5,n0,f5,a5,s5⟩:=qQl W4 #[pt sb 0,pt w'.heap.size 0,pt (w'.heap.size+1+1+1) 0,.int .i64 (fresh:Nat),.int .i64 0] 213;have hw:=qQi k;simp only[go_sem,j7,yU,m7,wf,m9,n0];exact⟨W4.heap.size,w'.heap.size,w'.heap.size+3,w'.heap.size+1,w'.heap.size+2,⟨by trivial,by trivial,by trivial,by trivial,rfl,a5,f5.at a1 id,f5.at a4 id,(f5.blk _ (qQi a2) id).trans a2,(f5.blk _ (qQi a3) id).trans a3,f5.at (f4.at k id) id,(f.trans f4).trans f5,x8,x8,x8,x8,x8,x8⟩,h7.fr0 f5⟩
    clear N x1 e5 e7 e6 k f d0 V;rintro A D ⟨E,ob,Y,nR,nL,⟨N,x1,e5,e6,R,T,ko,kn,kR,kL,k,f,lp,ln,lR,lL,a0,b1⟩,a6⟩;refine qZf (fun A D=>∃ ob oR oL ro lo,V9 u w sb i p r (A 0) (A 1) (A 5) (A 6) (A 9) E ob Y nR nL fresh 0 oR oL D/\LkM u D sb iv im s mn mr cv vv nl rl pg fs ts/\OldM w D (ahead ts) oR oL ro lo) ?_ ?_
    ·by_cases t1:1<i
     ·have d7:=dTo ((i:Int) > 1)
      have n5:IntKind.i64.wrap ((i:Int) - 2)=((i - 2:Nat):Int):=qXv (b:=2) x8 x8;obtain⟨ps,d1,b7,d8⟩:=id hL.vs;obtain⟨h8,h9,h5,k0⟩:=a6.sg;have rv:rdO prog 70 D sb 9=some vv:=rd1 agg70 h5.row rfl;have d9:=(d1.fr0 f).rd;have I:(ps.map fun b=>[pt b 0]).length=ts.length:=by rw[List.length_map];exact b7
      obtain⟨vb,vo,q9,e3,_⟩:=d9.pos j0 (by rw[I];omega);have hj:i - 2<ps.length:=x8
      have n6:rdO prog 156 D vb (vo+(i - 2))=some (pt (ps[i - 2]) 0):=by
       rw[e3]at d9;have:=d9.fld (P:=prog) (t:=156) agg156 (i:=i - 2) (by rw[I];omega) (j:=0) j0 (x:=pt (ps[i - 2]) 0) (by simp only[List.getElem_map,List.getElem?_cons_zero]);rw[j8,Nat.add_zero]at this;exact this
      rw[I]at e3
      have n7:ts[i - 2]?=some (ahead ts):=by
       unfold ahead;rw[List.getLastD_eq_getLast?,List.getLast?_eq_getElem?,show ts.length - 1=i - 2 by omega]
       cases hx:ts[i - 2]? with
       | none=>rw[List.getElem?_eq_none_iff]at hx;omega
       | some x=>rfl
      obtain⟨mR,mL,ro,lo,s1,s2,s3,s4,s5,s6,s7,s8⟩:=d8 (i - 2) (ps[i - 2]) (ahead ts) (zZ hj) n7;generalize ps[i - 2]=b9 at *;have y1:(0:Int)<=((i - 2:Nat):Int)/\((i - 2:Nat):Int)<(ts.length:Int):=x8
      have q:=wr1 (P:=prog) (t:=156) (w:=D) (b:=E) (o:=1) (v:=pt b9 0) sz156 rfl T (show 1<5 by decide);rw[e3]at rv;simp only[go_sem,j7,jV,x1,d7,N,R,rv,n5,y1,and_self,if_true,iTn,j8,n6,q];have r4:=qQi s1;have fq:Fr (fun b=>b=E) D (put D E (.cells (#[pt sb 0,pt ob 0,pt Y 0,.int .i64 (fresh:Nat),.int .i64 (0:Nat)].setIfInBounds 1 (pt b9 0)) 213 (0,0))):=(Fr.refl _ _).put (b:=E) _ (fun _=>rfl);have e4:=qQd (o:=.cells (#[pt sb 0,pt ob 0,pt Y 0,.int .i64 (fresh:Nat),.int .i64 (0:Nat)].setIfInBounds 1 (pt b9 0)) 213 (0,0)) T;have a7:No w (put D E (.cells (#[pt sb 0,pt ob 0,pt Y 0,.int .i64 (fresh:Nat),.int .i64 (0:Nat)].setIfInBounds 1 (pt b9 0)) 213 (0,0))):=f.put (b:=E) _ fun h=>by omega
      have f0:Y≠E:=fun e=>by rw[e,T]at kn;cases kn
      have f7:nR≠E:=fun e=>by rw[e,T]at kR;cases kR
      have f9:nL≠E:=fun e=>by rw[e,T]at kL;cases kL
      have g0:w.heap.size≠E:=fun e=>by rw[e,T]at k;cases k
      refine⟨b9,some mR,some mL,ro,lo,⟨by trivial,by trivial,by trivial,by trivial,by trivial,e4,a7.at s1 id,fq.at kn f0,(fq.blk _ (qQi kR) f7).trans kR,(fq.blk _ (qQi kL) f9).trans kL,fq.at k g0,a7,lp,ln,lR,lL,a0,x8⟩,hL.fr0 a7,s5.fr0 a7,s6.fr0 a7,s7,s8,?_,?_⟩
      ·intro b B;cases B;obtain⟨_,_,x,_⟩:=s5;exact qQi x
      ·intro b B;cases B;obtain⟨_,_,x,_⟩:=s6;exact qQi x
     ·have d7:=dFo ((i:Int) > 1)
      simp only[go_sem,j7,x1,d7];refine⟨ob,none,none,[],[],⟨by trivial,by trivial,by trivial,by trivial,by trivial,T,ko,kn,kR,kL,k,f,lp,ln,lR,lL,a0,b1⟩,a6,?_⟩;have:ts=[]:=List.length_eq_zero_iff.1 x8;rw[this];exact⟨rfl,rfl,fun _=>rfl,fun _=>rfl,(fun _ h=>by cases h),fun _ h=>by cases h⟩
    clear N x1 e5 e6 R T ko kn kR kL k f lp ln lR lL a0 b1 a6 ob;rintro A D ⟨ob,oR,oL,ro,lo,⟨N,x1,e5,e6,R,T,ko,kn,kR,kL,k,f,lp,ln,lR,lL,a0,b1⟩,a6,hO⟩;refine qZf (fun A D=>V9 u w sb i p r (A 0) (A 1) (A 5) (A 6) (A 9) E ob Y nR nL fresh fresh oR oL D/\LkM u D sb iv im s mn mr cv vv nl rl pg fs ts/\OldM w D (ahead ts) oR oL ro lo) ?_ ?_
    ·have r3:rdO prog 3 D E 3=some (.int .i64 (fresh:Nat)):=rd1 agg3 T rfl
     have q:=wr1 (P:=prog) (t:=3) (w:=D) (b:=E) (o:=4) (v:=.int .i64 (fresh:Nat)) sz3 rfl T (show 4<5 by decide);have fq:Fr (fun b=>b=E) D (put D E (.cells (#[pt sb 0,pt ob 0,pt Y 0,.int .i64 (fresh:Nat),.int .i64 (0:Nat)].setIfInBounds 4 (.int .i64 (fresh:Nat))) 213 (0,0))):=(Fr.refl _ _).put (b:=E) _ (fun _=>rfl);have e4:=qQd (o:=.cells (#[pt sb 0,pt ob 0,pt Y 0,.int .i64 (fresh:Nat),.int .i64 (0:Nat)].setIfInBounds 4 (.int .i64 (fresh:Nat))) 213 (0,0)) T;have a7:No w (put D E (.cells (#[pt sb 0,pt ob 0,pt Y 0,.int .i64 (fresh:Nat),.int .i64 (0:Nat)].setIfInBounds 4 (.int .i64 (fresh:Nat))) 213 (0,0))):=f.put (b:=E) _ fun h=>by omega
     simp only[go_sem,j7,jV,R,r3,q];have f0:Y≠E:=fun e=>by rw[e,T]at kn;cases kn
     have n8:ob≠E:=fun e=>by rw[e,T]at ko;cases ko
     have f7:nR≠E:=fun e=>by rw[e,T]at kR;cases kR
     have f9:nL≠E:=fun e=>by rw[e,T]at kL;cases kL
     have g0:w.heap.size≠E:=fun e=>by rw[e,T]at k;cases k
     obtain⟨o1,o2,o3,o4,o5,o6⟩:=hO;exact⟨⟨by trivial,by trivial,by trivial,by trivial,by trivial,e4,fq.at ko n8,fq.at kn f0,(fq.blk _ (qQi kR) f7).trans kR,(fq.blk _ (qQi kL) f9).trans kL,fq.at k g0,a7,lp,ln,lR,lL,a0,b1⟩,hL.fr0 a7,o1.fr fq fun b B=>by have:=o5 b B;omega,o2.fr fq fun b B=>by have:=o6 b B;omega,o3,o4,o5,o6⟩
    clear N x1 e5 e6 R T ko kn kR kL k f lp ln lR lL a0 b1 a6 hO;rintro A D ⟨⟨N,x1,e5,e6,R,T,ko,kn,kR,kL,k,f,lp,ln,lR,lL,a0,b1⟩,a6,hO⟩;obtain⟨o1,o2,o3,o4,o5,o6⟩:=hO;obtain⟨h8,h9,h5,k0⟩:=a6.sg;obtain⟨_,_,m1,_⟩:=h.nds;obtain⟨_,_,m2,_⟩:=h.rcs;have t2:=qQi m1;have t3:=qQi m2;have hu:=hL.no.size
    obtain⟨c,J⟩:∃ c:Cx,c={ u:=u,sb:=sb,iv:=iv,im:=im,s:=s,mn:=mn,mr:=mr,cv:=cv,vv:=vv,nl:=nl,rl:=rl,pg:=pg,pb:=E,ob:=ob,nb:=Y,oR:=oR,oL:=oL,ro:=ro,lo:=lo,nR:=nR,nL:=nL,fresh:=fresh,fs:=fs }:=⟨_,rfl⟩
    have hk:c.Ok:=by
     subst J;exact { tabs:=Z.tabs,hRL:=a0,hRn:=⟨by show nR≠mn;omega,by show nR≠mr;omega⟩,hLn:=⟨by show nL≠mn;omega,by show nL≠mr;omega⟩,hoR:=fun b B=>by have:=o5 b B;exact⟨by show b≠nR;omega,by show b≠nL;omega⟩,hoL:=fun b B=>by have:=o6 b B;exact⟨by show b≠nR;omega,by show b≠nL;omega⟩,hpb:=by show u.heap.size<=E;omega,hsb:=Z.hsb,hnR:=by show u.heap.size<=nR;omega,hnL:=by show u.heap.size<=nL;omega,hiv:=Z.hiv,hm:=Z.hm,hpg:=Z.hpg,hnd:=Z.hnd,hf:=by show fresh<=4096;omega,hfs:=hfs }
    have hP:PassM c D fresh [] []:=by
     subst J;exact⟨⟨h8,h9,h5,k0⟩,T,ko,kn,o1,o2,Mp.new kR,Mp.new kL,a6.no⟩
    have hT:OldT c (ahead ts):=by subst J;exact⟨o3,o4⟩
    have hH:Here c (ahead ts) 0 Aud.zrow true (ahead ts):=by
     subst J;exact⟨x8,row0,l7,l8,l9,Pos.root _,fun _ _=>jJ _⟩
    have t4:rdO prog 3 D w.heap.size 4=some (.int .i64 (r.root:Nat)):=rd1 agg3 k rfl;have t5:rdO prog 3 D w.heap.size 5=some (.int .i64 (r.count:Nat)):=rd1 agg3 k rfl;have t6:∀ W:World,W.heap[w.heap.size]?=some (.cells (rcC r).toArray 80 (0,0))->rdO prog 75 W w.heap.size 6=some (dg r.sum):=fun W k=>qKb (e:=80) (fz:=(0,0)) (a:=[.int .i64 (r.ver:Nat),.int .i64 (r.first:Nat),.int .i64 (r.prev:Nat),.int .i64 (r.skip:Nat),.int .i64 (r.root:Nat),.int .i64 (r.count:Nat)]) (m:=r.sum.map u8) (r:=[]) agg75 (by simp[b5];exact sz75) (by simp[b5]) (by rw[k,rcC,z4]) rfl;unfold root1;generalize L:(if r.root=0 then (if r.sum=emptD s.width 256 then .ok (.nil,fresh) else .error (p,171)) else thr s.width (pnOf pg) fresh (r.root+1) 0 true (ahead ts) Aud.zrow r.root p r.count r.sum fresh:Except (Nat × Int) (PT × Nat))=g1;refine qZf (fun A O=>∃ t m rows lvs,g1=.ok (t,m)/\A 0=pt sb 0/\A 5=.int .i64 (p:Nat)/\A 9=pt E 0/\PassM c O m rows lvs/\RowsIn 0 Aud.zrow t [] rows/\LvsIn t [] lvs/\Fr (PaB c) D O) ?_ ?_
    ·have nz:((r.root:Int) == 0)=decide (r.root=0):=nateq r.root 0
     by_cases hz:r.root=0
     ·rw[decide_eq_true hz]at nz
      rw[if_pos hz]at L;simp only[go_sem,jV,e6,t4,nz];refine qXg (Q:=fun e A O=>e=.normal/\A 0=pt sb 0/\A 5=.int .i64 (p:Nat)/\A 9=pt E 0/\A 109=.bool (!(r.sum == emptD s.width 256))/\PassM c O fresh [] []/\Fr (PaB c) D O) _ (fun e A O=>?_) ?_
      ·rintro⟨rfl,N,e5,R,M,k4,f6⟩
       rw[thenQ_normal]
       by_cases hsum:r.sum=emptD s.width 256
       ·rw[beq_iff_eq.2 hsum]at M
        have M:A 109=.bool false:=M;rw[if_pos hsum]at L;simp only[go_sem,M];exact⟨.nil,fresh,[],[],L.symm,N,e5,R,k4,RowsIn.nil 0 Aud.zrow [],LvsIn.nil [],f6⟩
       ·rw[beq_eq_false_iff_ne.2 hsum]at M
        have M:A 109=.bool true:=M;rw[if_neg hsum]at L;simp only[go_sem,j7,M,N,e5];have k5:=k4.find hk p 171;have c0:c.sb=sb:=by subst J;rfl
        rw[c0]at k5;refine qQa pl44 (k5.mono ?_);rintro _ w9 ⟨rfl,R⟩;simp only[go_sem];rw[<- L];subst J;exact⟨rfl,R⟩
      ·refine qXj (fun _=>false) (.one 0 (.one 2 (.two 1 (.row [3,4]) 3 (.row [1,4])))) rfl x9 x9 ?_
       have d2:=hP.drew;have k1:D.drew.heap[w.heap.size]?=_:=k;have fd:Fr (PaB c) D D.drew:=(Fr.refl _ _).drew;generalize D.drew=H at *;obtain⟨n9,t7,p0,_,p1⟩:=d2.srow;have c0:c.sb=sb:=by subst J;rfl
       have p2:c.s.width=s.width:=by subst J;rfl
       have a9:=bareS (hk.tabs.fr d2.no fun _ _ h=>h) d2.no.size (kC hk.tabs.size hk.hsb) p1 (fun _ h=>h.elim) (h:=256) x8;rw[c0,p2]at a9;have r1:=t6 H k1;have es:=eqDig b5 (qQy s.width 256);have p3:sb<w.heap.size:=qQi h.row
       have b3:∀ {O},Fr (fun b=>b=sb) H O->SRow c.u O sb c.iv c.s c.mn c.mr c.cv c.vv n9 (fun _=>False)->PassM c O fresh [] []/\Fr (PaB c) D O/\O.heap[w.heap.size]?=some (.cells (rcC r).toArray 80 (0,0)):=fun {O} f6 b4=>by
        rw[<- c0]at f6 b4;exact⟨d2.dig hk p0 f6 b4,fd.trans (f6.mono fun _ _ e=>.inl e),f6.at k1 fun e=>by rw[c0]at e;omega⟩
       simp only[go_sem,j7,jV,OT.row,N,e6,r1];refine⟨?_,?_⟩
       ·refine qQc pl125 (a9.mono ?_);rintro _ O ⟨rfl,f6,b4⟩
        refine⟨(fun h=>by cases h),?_⟩;obtain⟨a,b,k6⟩:=b3 f6 b4;have r6:=t6 O k6;simp only[go_sem,j7,es,eqg75];exact⟨by trivial,by trivial,by trivial,a,b⟩
       ·refine qQc pl125 (a9.mono ?_);rintro _ O ⟨rfl,f6,b4⟩
        refine⟨(fun h=>by cases h),?_⟩;obtain⟨a,b,k6⟩:=b3 f6 b4;have r6:=t6 O k6;simp only[go_sem,j7,r6,es,eqg75];exact⟨by trivial,by trivial,by trivial,a,b⟩
     ·rw[decide_eq_false hz]at nz
      rw[if_neg hz]at L;have bs:=bldSt (page:=r.root) (by':=p) (count:=r.count) b5;have bz:bldO prog 158 []=some (.agg (rwC 0 Aud.zrow).toArray):=by unfold bldO;rw[zero158,places158];kernel_rfl
      have t6:=t6 D k;simp only[go_sem,j7,jV,e5,e6,R,t4,t5,t6,nz,bs,bz];rw[thr_fuel (g:=257) (.inl x8) x8 x8]at L;have k7:=through hk hT 257 0 rfl r.root p r.count hP hH (by subst J;exact xC _) x8 b5;have p4:c.pb=E:=by subst J;rfl
      have p5:thr c.s.width (ndsP c.pg) c.fresh 257 0 true (ahead ts) Aud.zrow r.root p r.count r.sum fresh=g1:=by subst J;exact L
      rw[p4,p5]at k7;refine qQa pl126 (k7.mono ?_);rintro x O hq
      cases g1 with
      | error e =>
       obtain⟨rfl,hq⟩:=hq;simp only[go_sem,xH];subst J;exact⟨rfl,hq⟩
      | ok y =>
       obtain⟨t,m⟩:=y;obtain⟨rfl,f6,g2,k9,h6,rr,ll⟩:=hq;simp only[go_sem,j7,y8];exact⟨t,m,g2,k9,rfl,by trivial,by trivial,by trivial,h6,rr,ll,f6⟩
    clear N x1 e5 e6 R hP;rintro A O ⟨t,m,rows,lvs,rfl,N,e5,R,hP,rr,ll,f6⟩;subst J;have rn:rdO prog 3 O E 4=some (.int .i64 (m:Nat)):=rd1 agg3 hP.pass rfl;have nm:=natne m p
    by_cases hm:m=p
    case neg =>
     rw[decide_eq_true hm]at nm;simp only[go_sem,j7,jV,N,e5,R,rn,nm];refine qQa pl44 ((hP.find hk m 172).mono ?_);rintro _ w9 ⟨rfl,R⟩;simp only[go_sem];rw[if_neg hm];exact⟨rfl,R⟩
    rw[decide_eq_false fun e=>e hm]at nm;simp only[go_sem,j7,jV,e5,R,rn,nm];refine qXj (fun j=>j == 9) (.row [0,1,2,3,5,6,7,4,8,9,10,11,12,13]) rfl x9 x9 ?_;obtain⟨ps,d1,b7,d8⟩:=id hL.vs;have p3:sb<w.heap.size:=qQi h.row;have fA:Fr (fun b=>b=sb∨w.heap.size<=b) w O.drew:=((f.mono fun _ _ h=>h.elim).trans (f6.mono fun b _ e=>by rcases e with e | e | e | e;exact .inl e;exact .inr (by have:b=E:=e;omega);exact .inr (by have:b=nR:=e;omega);exact .inr (by have:b=nL:=e;omega))).drew;have hP:=hP.drew;generalize O.drew=H at *;have d5:∀ b,qQf vv=some b->∃ cs,w.heap[b]?=some (.cells cs 156 (0,0)):=fun b B=>qQz d1 B
    have d3:NwR u H 156 1 vv (ps.map fun b=>[pt b 0]):=d1.fr fA fun b B e=>by
     obtain⟨cs,hc⟩:=d5 b B
     rcases e with rfl | e
     ·rw[h.row]at hc;cases hc
     ·have:=qQi hc;omega
    have p6:∀ (j b:Nat) (t:PT),ps[j]?=some b->ts[j]?=some t->ShM u H b t:=fun j b t h1 h2=>(d8 j b t h1 h2).fr fA (fun b c B e=>by rcases e with rfl | e;rw[h.row]at B;cases B;have:=qQi B;omega) fun b es n B e=>by rcases e with rfl | e;rw[h.row]at B;cases B;have:=qQi B;omega
    obtain⟨c5,c6,h6,p7⟩:=hP.sg;have d6:H.heap[Y]?=some (.cells #[.map (some nR),.map (some nL)] 155 (0,0)):=hP.now;have l0:No u H:=hP.no;have rv:rdO prog 70 H sb 9=some vv:=rd1 agg70 h6.row rfl;have p8:rdO prog 156 H E 2=some (pt Y 0):=rd1 agg156 hP.pass rfl;have I:(ps.map fun b=>[pt b 0]).length=ts.length:=by rw[List.length_map];exact b7
    obtain⟨v8,w8,p9,b8,g8,m8⟩:=d3.push (P:=prog) app70_70 (xs:=[pt Y 0]) rfl rfl j0 (by rw[I];omega) (by rw[I];omega) hP.no.size;simp only[go_sem,j7,yX,yU,jV,OT.row,N,R,rv,p8];refine qKg (v:=.slice (some ⟨H.heap.size,0,none⟩) 1 1) (w':=H.alloc (.cells #[pt Y 0] 156)) (qQx (K:=1) j0 j0 (y:=[.pointer none]) rfl rfl rfl _) (fun _=>((Fr.refl (fun _=>False) _).alloc _).ext) ?_;simp only[go_sem,j7];refine qXf ⟨v8,w8,p9,?_⟩;refine⟨(fun h=>by cases h),?_⟩
    have l5:∀ b,qQf vv=some b->b≠sb:=fun b B e=>by
     obtain⟨cs,hc⟩:=d5 b B;subst e;rw[h.row]at hc;cases hc
    have k8:=g8.at h6.row fun B=>l5 _ B rfl;have o8:one v8=true:=by obtain⟨a,cc,e,_⟩:=b8.rd.slice;rw[e];rfl
    have q8:=wr1 (P:=prog) (t:=70) (o:=9) (v:=v8) sz70 o8 k8 (show 9<12 by decide);simp only[go_sem,j7,yX,jV,q8];show VsR u sb iv im s mn mr cv vv nl rl pg fs ts (if m=p then Except.ok t else Except.error (m,172)) _ _;rw[if_pos hm];have f8:Fr (fun b=>b=sb∨qQf vv=some b) H (put w8 sb (.cells ((sgC iv s mn mr cv vv c5 c6).setIfInBounds 9 v8) 73 (0,0))):=(g8.mono (G:=fun b=>b=sb∨qQf vv=some b) fun b _ B=>.inr B).put (b:=sb) _ fun _=>.inl rfl;have q0:=qQd (o:=.cells ((sgC iv s mn mr cv vv c5 c6).setIfInBounds 9 v8) 73 (0,0)) k8;have q1:Fr (fun b=>b=sb) w8 (put w8 sb (.cells ((sgC iv s mn mr cv vv c5 c6).setIfInBounds 9 v8) 73 (0,0))):=(Fr.refl _ _).put (b:=sb) _ fun _=>rfl
    have q2:∀ b,qQf v8=some b->b≠sb:=fun b B e=>by
     rcases m8 b B with h' | h'
     ·exact l5 b h' e
     ·have hx:sb<H.heap.size:=qQi h6.row;omega
    generalize put w8 sb (.cells ((sgC iv s mn mr cv vv c5 c6).setIfInBounds 9 v8) 73 (0,0))=W9 at *
    have b0:∀ b cs el,H.heap[b]?=some (.cells cs el (0,0))->(b=sb∨qQf vv=some b)->el=73∨el=156:=fun b cs el B e=>by
     rcases e with rfl | e
     ·rw[h6.row]at B;cases B;exact .inl rfl
     ·obtain⟨q3,c7⟩:=qQz d3 e;rw[B]at c7;cases c7;exact .inr rfl
    have a8:∀ b es n,H.heap[b]?=some (.map es n)->¬ (b=sb∨qQf vv=some b):=fun b es n B e=>by
     rcases e with rfl | e
     ·rw[h6.row]at B;cases B
     ·obtain⟨q3,c7⟩:=qQz d3 e;rw[B]at c7;cases c7
    have l6:∀ b,(b=sb∨qQf vv=some b)->u.heap.size<=b:=fun b e=>by
     rcases e with rfl | e
     ·exact Z.hsb
     ·exact (d3.lt e).1
    obtain⟨_,_,y1,_⟩:=id h6.nds;obtain⟨_,_,y2,_⟩:=id h6.rcs;obtain⟨_,_,y3,_⟩:=id hP.nowR;obtain⟨_,_,y4,_⟩:=id hP.nowL;refine⟨rfl,v8,⟨c5,c6,h6.fr f8 l6 Z.hiv ⟨a8 _ _ _ y1,a8 _ _ _ y2⟩ (fun b cs el B e=>?_) q0 o8 h6.ob,p7.fr f8 fun b cs B _ _ e=>?_⟩,l0.trans' f8 (fun b B e=>absurd B (Nat.not_lt.2 (l6 b e))),ps++[Y],?_,?_,?_⟩
    ·rcases b0 b cs el B e with rfl | rfl <;> exact⟨j0,j0,j0⟩
    ·rcases b0 b cs _ B e with h' | h' <;> exact absurd h' j0
    ·rw[List.map_append]
     exact b8.fr q1 q2
    ·rw[lAp,lAp,b7];rfl
    ·intro j b t' d4 c8
     by_cases hj:j<ts.length
     ·rw[List.getElem?_append_left x8]at d4 c8
      exact (p6 j b t' d4 c8).fr f8 (fun b cs B e=>by rcases b0 b cs _ B e with h' | h' <;> exact absurd h' j0) fun b es n B=>a8 b es n B
     ·have q4:j=ts.length:=by
       have:=List.getElem?_eq_some_iff.1 c8;obtain⟨q5,_⟩:=this;rw[lAp]at q5;have:[t].length=1:=rfl;omega
      subst q4;rw[<- b7,jR (xC _),kO]at d4;rw[jR (xC _),kO]at c8;cases d4;cases c8;refine⟨nR,nL,rows,lvs,f8.at d6 (fun e=>by rcases b0 _ _ _ d6 e with h' | h' <;> exact absurd h' j0),kC hu ln,kC hu lR,kC hu lL,hP.nowR.fr f8 (a8 _ _ _ y3),hP.nowL.fr f8 (a8 _ _ _ y4),fun key=>?_,fun key=>?_⟩
      ·rw[rr key];cases enP (Aud.rowAt 0 Aud.zrow t key) <;> rfl
      ·rw[ll key];cases enP (lfAt t key) <;> rfl
   ·simp only[go_sem,V]
  ·obtain⟨N,x1,e5,e7,e6,k,f⟩:=hV
   refine qXj (fun j=>j == 16 || j == 27) (.row [0,2,1,3,4,5,7,6,8,9,10,11,13,14,15,12,16,17,18,19,20,22,23,24,25,26,21,27,28,29]) rfl x9 x9 ?_;have f:=f.drew;have k:w1.drew.heap[w.heap.size]?=_:=k;generalize w1.drew=H at *;have hs:=h.fr0 f;have r0:rdO prog 3 H w.heap.size 0=some (.int .i64 (r.ver:Nat)):=rd1 agg3 k rfl;have r1:rdO prog 3 H w.heap.size 1=some (.int .i64 (r.first:Nat)):=rd1 agg3 k rfl;have r2:rdO prog 3 H w.heap.size 2=some (.int .i64 (r.prev:Nat)):=rd1 agg3 k rfl;have r3:rdO prog 3 H w.heap.size 3=some (.int .i64 (r.skip:Nat)):=rd1 agg3 k rfl;have n1:=natne r.first first;have n2:=natne r.ver num;have n3:=natne r.prev (chAt ch (i - 1));have n4:=natne r.skip (chAt ch (far i));have wi:IntKind.i64.wrap ((i:Int) - 1)=((i - 1:Nat):Int):=qXv (b:=1) x8 x8
   obtain⟨y,hy⟩:∃ y,andK .i64 (i:Int) ((i - 1:Nat):Int)=y:=⟨_,rfl⟩
   have q6:y=((far i:Nat):Int):=hy.symm.trans (and64 _ _ x8 x8);have done:∀ b:Bool,(b=!decide (r.first=first/\r.ver=num/\r.prev=chAt ch (i - 1)/\r.skip=chAt ch (far i)))->True:=fun _ _=>trivial
   by_cases c1:r.first=first
   case neg =>
    rw[decide_eq_true c1]at n1;simp only[go_sem,j7,yX,qXd,jV,OT.row,e6,e7,r1,n1];exact⟨⟨by trivial,by trivial,by trivial,by trivial,by trivial,k,f⟩,by rw[decide_eq_false fun h=>c1 h.1];rfl⟩
   rw[decide_eq_false fun e=>e c1]at n1
   by_cases c2:r.ver=num
   case neg =>
    rw[decide_eq_true c2]at n2;simp only[go_sem,j7,yX,bSe,qXd,jV,OT.row,e6,e7,e8,r1,n1,r0,n2];exact⟨⟨by trivial,by trivial,by trivial,by trivial,by trivial,k,f⟩,by rw[decide_eq_false fun h=>c2 h.2.1];rfl⟩
   rw[decide_eq_false fun e=>e c2]at n2;simp only[go_sem,j7,yX,bSe,jV,OT.row,N,x1,e6,e7,e8,r1,n1,r0,n2,r2,wi];refine qQc pl66 ((qVh hs (i:=i - 1) x8).mono ?_);rintro _ D ⟨b6,rfl⟩;rw[b6,U];refine⟨fun _=>(Fr.refl (fun _=>False) _).ext,?_⟩
   by_cases c3:r.prev=chAt ch (i - 1)
   case neg =>
    rw[decide_eq_true c3]at n3;simp only[go_sem,j7,yX,bSe,qXd,n3];exact⟨⟨by trivial,by trivial,by trivial,by trivial,by trivial,k,f⟩,by rw[decide_eq_false fun h=>c3 h.2.2.1];rfl⟩
   rw[decide_eq_false fun e=>e c3]at n3;simp only[go_sem,j7,yX,bSe,jV,N,x1,e6,n3,wi,hy,r3];rw[q6];refine qQc pl66 ((qVh hs (i:=far i) (by have:far i<=i:=Nat.and_le_left;omega)).mono ?_);rintro _ D ⟨b6,rfl⟩;rw[b6,U];refine⟨fun _=>(Fr.refl (fun _=>False) _).ext,?_⟩
   by_cases c4:r.skip=chAt ch (far i)
   ·rw[decide_eq_false fun e=>e c4]at n4
    simp only[go_sem,j7,yX,bSe,n4];exact⟨⟨by trivial,by trivial,by trivial,by trivial,by trivial,k,f⟩,by rw[decide_eq_true ⟨c1,c2,c3,c4⟩];rfl⟩
   ·rw[decide_eq_true c4]at n4
    simp only[go_sem,j7,yX,bSe,n4];exact⟨⟨by trivial,by trivial,by trivial,by trivial,by trivial,k,f⟩,by rw[decide_eq_false fun h=>c4 h.2.2.2];rfl⟩
 ·refine qXj (fun j=>j == 11 || j == 14) (.one 0 (.one 1 (.one 2 (.one 4 (.one 6 (.one 7 (.one 8 (.one 10 (.one 3 (.one 5 (.tri 9 (.two 11 (.two 12 (.row [13,14,15,16]) 14 (.two 12 (.row [13,15,16]) 15 (.row [12,13,16]))) 14 (.one 11 (.two 12 (.row [13,15,16]) 15 (.row [12,13,16])))) 11 (.two 9 (.two 12 (.row [13,14,15,16]) 14 (.two 12 (.row [13,15,16]) 15 (.row [12,13,16]))) 14 (.two 9 (.two 12 (.row [13,15,16]) 15 (.row [12,13,16])) 15 (.row [9,12,13,16]))) 14 (.two 9 (.one 11 (.two 12 (.row [13,15,16]) 15 (.row [12,13,16]))) 11 (.two 9 (.two 12 (.row [13,15,16]) 15 (.row [12,13,16])) 15 (.row [9,12,13,16])))))))))))))) rfl x9 x9 ?_
  have h1:=h.fr0 (Fr.refl _ _).drew;have s1:w.drew.heap.size=w.heap.size:=rfl;have f1:No w w.drew:=(Fr.refl _ _).drew;generalize w.drew=H at *;have r0:rdO prog 69 H sb 7=some (.map (some mr)):=rd1 agg69 h1.row rfl;obtain⟨ok,lk⟩:=rec_look h1 Z (chAt ch i);obtain⟨W2,g3,f2,k2,s2⟩:=qQl H (rcC rc00).toArray 80;have rl:(rcC (rcAt pg (chAt ch i))).length=38:=qXc (rcAt_len Z _);have h2:=h1.fr0 f2;have q:wrO prog 80 W2 H.heap.size 0 (.agg (rcC (rcAt pg (chAt ch i))).toArray)=some (put W2 H.heap.size (.cells (rcC (rcAt pg (chAt ch i))).toArray 80 (0,0))):=qQo (by simp[rl];exact sz80) k2 (by simp[rl,qXc (r:=rc00) z32l]) (by simpa using rcC_one _);have f3:=f2.put (b:=H.heap.size) (.cells (rcC (rcAt pg (chAt ch i))).toArray 80 (0,0)) fun h=>by omega
  have h3:=h1.fr0 f3;have k3:=qQd (o:=.cells (rcC (rcAt pg (chAt ch i))).toArray 80 (0,0)) k2;generalize hB:put W2 H.heap.size (.cells (rcC (rcAt pg (chAt ch i))).toArray 80 (0,0))=W3 at *;have r2:rdO prog 69 W2 sb 7=some (.map (some mr)):=rd1 agg69 h2.row rfl;have r3:rdO prog 69 W3 sb 7=some (.map (some mr)):=rd1 agg69 h3.row rfl;obtain⟨t8,l1⟩:=rec_look h1 Z (chAt ch 1);obtain⟨t9,l2⟩:=rec_look h2 Z (chAt ch 1);obtain⟨u0,l3⟩:=rec_look h3 Z (chAt ch 1);obtain⟨u1,l4⟩:=rec_look h2 Z (chAt ch i);have fe:partO prog 3 (rcC (rcAt pg (chAt ch 1))).toArray 1=some (.int .i64 ((rcAt pg (chAt ch 1)).first:Nat)):=by rw[qWb agg3];rfl
  have e2:=f2.ext;have hz:=rcZero
  have b3:V2 w sb i (chAt ch i) (rcAt pg (chAt ch 1)).first (rcAt pg (chAt ch i)) (pt sb 0) (.int .i64 (i:Nat)) (.int .i64 (chAt ch i:Nat)) (pt H.heap.size 0) (.int .i64 ((rcAt pg (chAt ch 1)).first:Nat)) W3:=⟨rfl,rfl,rfl,rfl,by rw[s1],by rw[<- s1];exact k3,f1.trans f3⟩
  simp only[go_sem,j7,yX,yU,bSe,jV,qQk,OT.row,r0,r2,lk,hz,g3,e2,implies_true,true_and]
  repeat' (first
   | (refine qQc pl66 ((qVh h1 (i:=1) x8).mono ?_);rintro _ wx ⟨ex,rfl⟩;rw[ex,U];refine And.intro (fun _=>(Fr.refl (fun _=>False) _).ext) ?_;simp only[go_sem,j7,yX,yU,bSe,qQk,r0,r2,r3,l1,l2,l3,fe,hz,g3,q,e2,implies_true,and_self,b3])
   | (refine qQc pl66 ((qVh h2 (i:=1) x8).mono ?_);rintro _ wx ⟨ex,rfl⟩;rw[ex,U];refine And.intro (fun _=>(Fr.refl (fun _=>False) _).ext) ?_;simp only[go_sem,j7,yX,r2,r3,l2,l3,fe,q,implies_true,and_self,b3])
   | (refine qQc pl66 ((qVh h3 (i:=1) x8).mono ?_);rintro _ wx ⟨ex,rfl⟩;rw[ex,U];refine And.intro (fun _=>(Fr.refl (fun _=>False) _).ext) ?_;simp only[go_sem,j7,yX,vS,yU,bSe,bNe,qQq,qXd,y8,xH,jV,Nat.add_zero,qQk,OT.row,r0,r2,r3,lk,l1,l2,l3,l4,fe,hz,g3,q,e2,implies_true,true_and,and_self,b3])
   | (refine And.intro ?_ ?_))
end
end A
end
section
namespace A
open Aud
section
variable {u w w':World} {sb:Nat} {iv:Value} {im:Bs} {s:Sup} {mn mr:Nat} {cv vv fv bv:Value} {nl rl:List (Nat × Value)} {pg:Nat->Option Pg} {k:Nat} {fs:List (Nat × Int)} {ts:List PT}
theorem ndOk' (B:LkOk u sb iv s pg):NdOk (pnOf pg):=fun p nd h=>by
 obtain⟨D,A⟩:=B.hnd p nd (qJx.1 h);refine⟨D,?_⟩
 cases nd with
 | leaf k v=>exact A.1
 | br E H lc rc I rs =>
  obtain⟨⟨a,b,_,d,_⟩,_⟩:=A;refine⟨d,fun e=>?_,fun e=>?_⟩
  ·unfold chR at a;rw[if_pos e]at a;exact a
  ·unfold chR at b;rw[if_pos e]at b;exact b
theorem rc_first (B:LkOk u sb iv s pg)(p:Nat):(rcAt pg p).first<=2 ^ 30/\((rcAt pg p).root=0->(rcAt pg p).count=0):=by
 unfold rcAt;split
 ·rename_i r h
  obtain⟨_,A,_⟩:=B.hrc _ _ h;refine⟨A.1,fun D=>?_⟩
  rcases A.2.2.2.1 with h | h
  ·exact h.2
  ·exact absurd D h.1
 ·exact⟨jJ _,fun _=>rfl⟩
theorem chAt_in (D:LkOk u sb iv s pg)(hi:1<=i)(E:i<=(chK pg s.mark).length):2<=chAt (chK pg s.mark) i:=by
 unfold chAt;rw[if_neg x8];have A:i - 1<(chK pg s.mark).length:=x8
 rw[gDq,zZ A];show 2<=(chK pg s.mark)[i - 1];have B:=List.getElem_mem A;generalize (chK pg s.mark)[i - 1]=x at B;unfold chK at B;have:=(List.mem_filter.1 B).2;unfold isRc at this;split at this
 ·rename_i r h;exact (D.hrc _ _ h).1
 ·cases this
theorem chK_len (pg:Nat->Option Pg)(k:Nat):(chK pg k).length<=k:=by unfold chK;exact kC (List.length_filter_le _ _) sm
def AhOk (s:Sup)(pg:Nat->Option Pg)(i:Nat)(o:PT):Prop:=o.Wf 0/\Stands (dgT s.width) (pnOf pg) 0 o/\o.page<max 1 (chAt (chK pg s.mark) i)+1
theorem ahead_next (B:LkOk u sb iv s pg)(D:i<(chK pg s.mark).length){o t:PT}(h:AhOk s pg i o)(A:verP s.width pg (chK pg s.mark) (i+1) o=.ok t):AhOk s pg (i+1) t:=by
 unfold verP at A;split at A
 ·rw[Nat.add_sub_cancel]at A
  have E:=chAt_in B (i:=i+1) x8 x8;have g:=root1_ok (ndOk' B) h.1 h.2.1 h.2.2 (rc_first B _).2 x8 A;exact⟨g.1,g.2.1,by have:=g.2.2.2.2.2.2.2;omega⟩
 ·cases A
def trsP (wd:Int)(pg:Nat->Option Pg)(ch:List Nat)(k:Nat):List PT:=(List.range k).map fun j=>trP wd pg ch (j+1)
theorem trsP_succ (wd:Int)(pg:Nat->Option Pg)(ch:List Nat)(k:Nat):trsP wd pg ch (k+1)=trsP wd pg ch k++[trP wd pg ch (k+1)]:=by unfold trsP;rw[List.range_succ,List.map_append];rfl
theorem ahead_tr (wd:Int)(pg:Nat->Option Pg)(ch:List Nat)(k:Nat):ahead (trsP wd pg ch k)=trP wd pg ch k:=by
 cases k with
 | zero=>rfl
 | succ k=>rw[trsP_succ];unfold ahead;simp
def WhR (u:World)(sb:Nat)(iv:Value)(im:Bs)(s:Sup)(mn mr:Nat)(cv:Value)(nl rl:List (Nat × Value))(pg:Nat->Option Pg)(fs:List (Nat × Int))(r:Except (Nat × Int) Unit)(w:World):Prop :=
 ∃ vv,ErrL u sb iv im s mn mr cv vv nl rl pg (match r with | .ok _=>fs | .error e=>fs++[e]) w/\(r=.ok ()->VsM u w vv (trsP s.width pg (chK pg s.mark) (chK pg s.mark).length))
def whI (u:World)(sb:Nat)(iv:Value)(im:Bs)(s:Sup)(mn mr:Nat)(cv:Value)(nl rl:List (Nat × Value))(pg:Nat->Option Pg)(fs:List (Nat × Int))(R:Except (Nat × Int) Unit)(n:Nat)(vs:List Value)(w:World):Prop :=
 ∃ (i:Nat) (vv:Value) (ts:List PT),vs=[pt sb 0,.int .i64 ((chK pg s.mark).length:Nat),.int .i64 (i:Nat)]/\i<=(chK pg s.mark).length/\n=(chK pg s.mark).length - i/\LkM u w sb iv im s mn mr cv vv nl rl pg fs ts/\ts.length=i/\versP s.width pg (chK pg s.mark) ((chK pg s.mark).length - i) (i+1) (ahead ts)=R/\AhOk s pg i (ahead ts)/\ts=trsP s.width pg (chK pg s.mark) i
theorem whole (L:LkM u w sb iv im s mn mr cv vv nl rl pg fs [])(M:LkOk u sb iv s pg)(hfs:fs.length<=2 ^ 20) :
  Fn prog 45 #[pt sb 0] w fun v w'=>v=.tuple #[]/\WhR u sb iv im s mn mr cv nl rl pg fs (qVe s.width pg (chK pg s.mark) s.mark s.head) w':=by
 refine go45 sm ?_;obtain⟨fv,bv,h,b0⟩:=L.sg;obtain⟨a,cap,N,W⟩:=h.chn.rd.slice;rw[qZq]at N W;have b1:=chK_len pg s.mark;have b3:=M.hm;generalize A:chK pg s.mark=ch at *;have U:rdO prog 45 w sb 8=some (.slice a ch.length cap):=by rw[<- N];exact rd1 agg45 h.row rfl
 simp -implicitDefEqProofs only[go_sem,jV,Tryz.f45,U];generalize hR:versP s.width pg ch ch.length 1 .nil=R;refine loopD [0,8,9] (whI u sb iv im s mn mr cv nl rl pg fs R) ch.length ⟨0,vv,[],by rw[A];rfl,x8,by rw[A];rfl,L,rfl,by rw[A,<- hR];rfl,⟨trivial,trivial,?_⟩,rfl⟩ ?_
 ·show 0<_;omega
 rintro _ vs w g ⟨i,vv,ts,rfl,hi,rfl,L,a0,E,H,O⟩;rw[A]at hi E ⊢
 by_cases a3:i<ch.length
 ·have d1:=dTo ((i:Int)<(ch.length:Int))
  have c1:=iSu (i:=i);simp -implicitDefEqProofs only[go_sem,j7,d1,c1];refine qQa pl82 ((version L M hfs (i:=i+1) x8 x8 (rc_first M _).1 H.1 H.2.1 (by rw[Nat.add_sub_cancel];exact H.2.2)).mono ?_);rintro x w5 T;rw[A]at T;rw[show ch.length - i=(ch.length - (i+1))+1 by omega]at E;unfold versP at E
  cases D:verP s.width pg ch (i+1) (ahead ts) with
  | error e =>
   rw[D]at T E;obtain⟨rfl,T⟩:=T;simp -implicitDefEqProofs only[go_sem,xH];have hw:qVe s.width pg ch s.mark s.head=.error e:=by unfold qVe;rw[hR,<- E]
   rw[hw];exact⟨vv,T,fun h=>by cases h⟩
  | ok t =>
   rw[D]at T E;obtain⟨rfl,a4,a5⟩:=T;simp -implicitDefEqProofs only[go_sem,j7,y8,c1];refine⟨ch.length - (i+1),x8,i+1,a4,ts++[t],by rw[A],by rw[A];omega,by rw[A],a5,by rw[lAp,a0];rfl,?_,?_,?_⟩
   ·rw[A]
    have:ahead (ts++[t])=t:=by unfold ahead;simp
    rw[this];exact E
   ·have:ahead (ts++[t])=t:=by unfold ahead;simp
    rw[this];exact ahead_next M (by rw[A];exact a3) H (by rw[A];exact D)
   ·rw[O,ahead_tr,A]at D
    rw[trsP_succ,A,trP_ok D,O,A]
 ·have a6:i=ch.length:=x8
  subst a6;have d1:=dFo ((ch.length:Int)<(ch.length:Int));rw[kO]at E;have a7:R=.ok ():=E.symm;subst a7;obtain⟨b4,b5,h5,b6⟩:=L.sg
  have hE:ErrL u sb iv im s mn mr cv vv nl rl pg fs w:=⟨L.no,L.sg⟩
  have Y:VsM u w vv (trsP s.width pg ch ch.length):=by have hx:=L.vs;rw[O,A]at hx;exact hx
  unfold WhR;rw[A];have U:rdO prog 45 w sb 8=some (.slice a ch.length cap):=by rw[<- N];exact rd1 agg45 h5.row rfl
  have r3:rdO prog 3 w sb 3=some (.int .i64 (s.mark:Nat)):=rd1 agg3 h5.row rfl;have r4:rdO prog 3 w sb 4=some (.int .i64 (s.head:Nat)):=rd1 agg3 h5.row rfl;simp -implicitDefEqProofs only[go_sem,j7,jV,d1,U];refine qQa pl66 ((qVh h5 (i:=ch.length) x8).mono ?_);rintro _ w5 ⟨a8,rfl⟩;rw[a8,A];have I:=maxOne (chAt ch ch.length);have b7:chAt ch ch.length<4096:=by rw[<- A];exact chAt_lt M _
  generalize a9:max 1 (chAt ch ch.length)=B at *
  have hw:qVe s.width pg ch s.mark s.head=if B+1<s.mark then .error (B+1,172) else if 0<ch.length/\s.head≠B then .error (B,173) else .ok ():=by
   unfold qVe;rw[hR,a9]
  rw[hw];have c1:=iSu (i:=B);have V:=natlt (B+1) s.mark
  by_cases J:B+1<s.mark
  ·rw[decide_eq_true J]at V
   simp -implicitDefEqProofs only[go_sem,j7,vS,jV,I,c1,r3,V];refine qQa pl44 ((errFind hE M hfs (B+1) 172).mono ?_);rintro _ w9 ⟨rfl,e9⟩;simp -implicitDefEqProofs only[go_sem];rw[if_pos J];exact⟨vv,e9,fun h=>by cases h⟩
  ·rw[decide_eq_false J]at V
   rw[if_neg J];have Z:decide ((ch.length:Int) > 0)=decide (0<ch.length):=natlt 0 ch.length;have n4:=natne s.head B
   by_cases h0:0<ch.length
   ·rw[decide_eq_true h0]at Z
    by_cases hh:s.head=B
    ·rw[decide_eq_false fun e=>e hh]at n4
     simp -implicitDefEqProofs only[go_sem,j7,vS,bSe,jV,I,c1,r3,V,U,Z,r4,n4];rw[if_neg fun h=>h.2 hh];exact⟨vv,hE,fun _=>Y⟩
    ·rw[decide_eq_true hh]at n4
     simp -implicitDefEqProofs only[go_sem,j7,vS,bSe,jV,I,c1,r3,V,U,Z,r4,n4];refine qQa pl44 ((errFind hE M hfs B 173).mono ?_);rintro _ w9 ⟨rfl,e9⟩;simp -implicitDefEqProofs only[go_sem];rw[if_pos ⟨h0,hh⟩];exact⟨vv,e9,fun h=>by cases h⟩
   ·rw[decide_eq_false h0]at Z
    simp -implicitDefEqProofs only[go_sem,j7,vS,qQq,jV,I,c1,r3,V,U,Z];rw[if_neg fun h=>h0 h.1];exact⟨vv,hE,fun _=>Y⟩
end
end A
end
section
namespace A
open Aud
abbrev nS:Value:=.slice none 0 0
abbrev sup00:Sup:=⟨0,0,0,0,0⟩
theorem bldSight (im:Option Addr)(n c:Nat)(x y:Nat):bldO prog 73 [(0,.slice im n c),(2,.map (some x)),(3,.map (some y))]=some (.agg (sgC (.slice im n c) sup00 x y nS nS nS nS)):=by
 unfold bldO;rw[zero73,places73];rfl
theorem allocS (w:World)(c:Array Value):∃ W,((w.alloc (.map #[] 0)).alloc (.map #[] 0)).alloc (.cells c 73)=W/\No w W/\W.heap[w.heap.size]?=some (.map #[] 0)/\W.heap[w.heap.size+1]?=some (.map #[] 0)/\W.heap[w.heap.size+2]?=some (.cells c 73 (0,0))/\W.heap.size=w.heap.size+3:=by
 have J:No w (w.alloc (.map #[] 0)):=(Fr.refl _ _).alloc _;have L:(w.alloc (.map #[] 0)).heap[w.heap.size]?=some (.map #[] 0):=qQb _ _;have M:(w.alloc (.map #[] 0)).heap.size=w.heap.size+1:=qQg _ _;generalize w.alloc (.map #[] 0)=A at *;have D:No A (A.alloc (.map #[] 0)):=(Fr.refl _ _).alloc _;have E:(A.alloc (.map #[] 0)).heap[A.heap.size]?=some (.map #[] 0):=qQb _ _;have T:(A.alloc (.map #[] 0)).heap.size=A.heap.size+1:=qQg _ _;generalize A.alloc (.map #[] 0)=H at *;obtain⟨N,O,B,I,U⟩:=qQl H c 73;have R:H.heap.size=w.heap.size+2:=x8
 rw[M]at E;rw[R]at I;exact⟨N,O,(J.trans D).trans B,by rw[B.blk w.heap.size x8 id,D.blk w.heap.size x8 id];exact L,by rw[B.blk (w.heap.size+1) x8 id];exact E,I,x8⟩
theorem sgNew {sb mn mr:Nat}{s:Sup}(pg:Nat->Option Pg)(A:w.heap[sb]?=some (.cells (sgC iv s mn mr nS nS nS nS) 73 (0, 0)))(hi:By w iv im)(B:w.heap[mn]?=some (.map #[] 0))(D:w.heap[mr]?=some (.map #[] 0))(hne:mn≠mr)(E:u.heap.size<=sb)(H:u.heap.size<=mn)(I:u.heap.size<=mr) :
  SgM u w sb iv im s mn mr nS nS nS nS [] [] pg 0 [] :=
 ⟨A,hi,Mp.new B,Mp.new D,hne,E,H,I,NwR.nil _ _ _ _,NwR.nil _ _ _ _,fun p=>by rw[if_neg (Nat.not_lt_zero p)];rfl,fun p=>by rw[if_neg (Nat.not_lt_zero p)];rfl,rfl,rfl⟩
theorem qWf {a b:Bs}{e:Int}(h:qZc a b=.error e):(e != 0)=true:=by
 unfold qZc at h;split at h
 ·unfold qZh at h
  repeat' split at h
  all_goals first | (cases h;decide) | cases h
 ·repeat' split at h
  all_goals first | (cases h;decide) | cases h
theorem wrSup {iv x y a b c d:Value}{s s':Sup}(k:w.heap[sb]?=some (.cells #[iv, .int .i64 (s.width:Nat), .int .i64 (s.gen:Nat), .int .i64 (s.mark:Nat), .int .i64 (s.head:Nat), .int .i64 (s.pages:Nat), x, y, a, b, c, d] 73 (0, 0))) :
  wrO prog 67 w sb 1 (.agg (supC s'))=some (put w sb (.cells #[iv,.int .i64 (s'.width:Nat),.int .i64 (s'.gen:Nat),.int .i64 (s'.mark:Nat),.int .i64 (s'.head:Nat),.int .i64 (s'.pages:Nat),x,y,a,b,c,d] 73 (0,0))) :=
 wr_mid (a:=[iv]) (m:=[.int .i64 (s.width:Nat),.int .i64 (s.gen:Nat),.int .i64 (s.mark:Nat),.int .i64 (s.head:Nat),.int .i64 (s.pages:Nat)]) (r:=[x,y,a,b,c,d]) (vs:=[.int .i64 (s'.width:Nat),.int .i64 (s'.gen:Nat),.int .i64 (s'.mark:Nat),.int .i64 (s'.head:Nat),.int .i64 (s'.pages:Nat)]) sz67 rfl rfl k rfl
theorem lkOk {s:Sup}(ht:Tabs u)(hs:u.heap.size<=sb)(hi:∀ b,qQf iv=some b->b<u.heap.size)(h:s.ok):LkOk u sb iv s (pgF im s.mark) where
 tabs:=ht
 hsb:=hs
 hiv:=hi
 hm:=by obtain⟨_,_,h3,h4,_⟩:=h;omega
 hpg p hp:=pgF_none fun e=>by omega
 hnd p n hn:=by obtain⟨h2,_,ha⟩:=pgF_some hn;exact⟨h2,qWi ha⟩
 hrc p r hr:=by obtain⟨h2,_,ha⟩:=pgF_some hr;exact⟨h2,qWi ha⟩
theorem loadsSmall (w:World)(sb:Nat){k:Nat}(E:k<2):Fn prog 230 #[.agg #[],pt sb 0,.int .i64 (k:Nat)] w fun v w'=>v=.int .i64 0/\No w w':=by
 refine go230 sm ?_;obtain⟨W,A,B,_,H⟩:=qQl w #[] 174;have D:=dTo ((k:Int)<2);simp -implicitDefEqProofs only[go_sem,j7,vS,yU,jV,Tryz.f230,A,D];exact B
def lkI (u:World)(sb:Nat)(iv:Value)(im:Bs)(s:Sup)(mn mr A:Nat)(n:Nat)(vs:List Value)(w:World):Prop :=
 ∃ (i:Nat) (cv fv:Value) (nl rl:List (Nat × Value)),vs=[pt sb 0,pt A 0,.int .i64 (s.mark:Nat),.int .i64 (i:Nat)]/\i<=s.mark/\n=s.mark - i/\SgM u w sb iv im s mn mr cv nS fv nS nl rl (pgF im s.mark) i (qXi im i)/\No u w/\w.heap[A]?=some (.cells #[zrV,loV] 120 (0,0))
section
variable {u w:World} {sb:Nat} {iv:Value} {im:Bs} {s:Sup} {mn mr:Nat} {cv vv fv bv:Value} {nl rl:List (Nat × Value)} {pg:Nat->Option Pg} {k:Nat} {fs:List (Nat × Int)}
theorem fvOff (h:SgM u w sb iv im s mn mr cv vv fv bv nl rl pg k fs)(b:Nat)(A:b<u.heap.size)(e:FvB sb fv b):False:=by
 rcases e with rfl | e
 ·exact Nat.not_lt.2 h.hsb A
 ·exact Nat.not_lt.2 (h.fnd.lt e).1 A
theorem fvOff2 (h:SgM u w sb iv im s mn mr cv vv fv bv nl rl pg k fs)(B:w.heap[b]?=some (.cells cs el (0,0)))(D:el≠73)(E:el≠43)(e:FvB sb fv b):False:=by
 rcases e with rfl | e
 ·rw[h.row]at B;cases B;exact D rfl
 ·obtain⟨c',A⟩:=qQz h.fnd e;rw[B]at A;cases A;exact E rfl
theorem ldOff (h:SgM u w sb iv im s mn mr cv vv fv bv nl rl pg k fs)(b:Nat)(A:b<u.heap.size)(e:LdB sb mn mr cv b):False:=by
 rcases e with rfl | rfl | rfl | e
 ·exact Nat.not_lt.2 h.hsb A
 ·exact Nat.not_lt.2 h.hmn A
 ·exact Nat.not_lt.2 h.hmr A
 ·exact Nat.not_lt.2 (h.chn.lt e).1 A
theorem ldOff2 (h:SgM u w sb iv im s mn mr cv vv fv bv nl rl pg k fs)(A:w.heap[b]?=some (.cells cs el (0,0)))(D:el≠73)(E:el≠3)(e:LdB sb mn mr cv b):False:=by
 obtain⟨_,_,H,_⟩:=h.nds;obtain⟨_,_,I,_⟩:=h.rcs
 rcases e with rfl | rfl | rfl | e
 ·rw[h.row]at A;cases A;exact D rfl
 ·rw[H]at A;cases A
 ·rw[I]at A;cases A
 ·obtain⟨c',B⟩:=qQz h.chn e;rw[A]at B;cases B;exact E rfl
end
def lkJ (u:World)(sb:Nat)(iv:Value)(im:Bs)(s:Sup)(mn mr E i:Nat)(cv fv:Value)(nl rl:List (Nat × Value))(n:Nat)(vs:List Value)(w:World):Prop :=
 ∃ j:Nat,vs=[pt sb 0,pt E 0,.int .i64 (i:Nat),.int .i64 (s.mark:Nat),.int .i64 (i:Nat),.agg #[zrV,loV],.int .i64 (j:Nat)]/\n=2 - j/\No u w/\w.heap[E]?=some (.cells #[zrV,loV] 120 (0,0)) /\
  ((j=0/\SgM u w sb iv im s mn mr cv nS fv nS nl rl (pgF im s.mark) i (qXi im i))∨(j=1/\SgM u w sb iv im s mn mr cv nS fv nS nl rl (pgF im s.mark) i (qXi im i)/\¬ (i<2/\zer ((pgB im i).drop 64)=false)) ∨
   (j=2/\qXw im i=0/\∃ A B D,SgM u w sb iv im s mn mr A nS fv nS B D (pgF im s.mark) (i+1) (qXi im i)))
def LkQ (u:World)(iv:Value)(im:Bs)(v:Value)(w:World):Prop :=
 match lookP im with
 | .error e=>v=.tuple #[.pointer none,.int .i64 e]/\No u w
 | .ok (s,fs)=>∃ sb mn mr cv vv nl rl,v=.tuple #[pt sb 0,.int .i64 0]/\LkOk u sb iv s (pgF im s.mark)/\ErrL u sb iv im s mn mr cv vv nl rl (pgF im s.mark) fs w/\(fs=[]->VsM u w vv (trsP s.width (pgF im s.mark) (chK (pgF im s.mark) s.mark) (chK (pgF im s.mark) s.mark).length))
theorem look (w:World)(ht:Tabs w)(hi:By w iv im)(hl:im.length<=2 ^ 47) :
  Fn prog 23 #[iv] w fun v w'=>LkQ w iv im v w':=by
 refine go23 sm ?_;obtain⟨a,cap,rfl,H⟩:=hi.slice;have n0:((256:Int)=0)=False:=sm
 have d0:((im.length:Int).tmod 256 != 0)=decide (im.length % 256≠0):=natne (im.length % 256) 0
 by_cases h0:im.length % 256≠0
 ·rw[decide_eq_true h0]at d0
  simp -implicitDefEqProofs only[go_sem,j7,Tryz.f23,n0,if_false,d0];unfold LkQ lookP;rw[if_pos h0];exact⟨rfl,Fr.refl _ _⟩
 rw[decide_eq_false h0]at d0
 have d1:IntKind.i64.wrap ((im.length:Int).tdiv 256)=((im.length / 256:Nat):Int):=by
  have:(im.length:Int).tdiv 256=((im.length / 256:Nat):Int):=rfl;rw[this,qQr x8 x8]
 have d2:decide (((im.length / 256:Nat):Int)<3)=decide (im.length / 256<3):=natlt _ 3;have d3:decide (((im.length / 256:Nat):Int) > 4096)=decide (4096<im.length / 256):=natlt 4096 _
 by_cases h1:im.length / 256<3∨4096<im.length / 256
 ·by_cases h3:im.length / 256<3
  ·rw[decide_eq_true h3]at d2
   simp -implicitDefEqProofs only[go_sem,j7,qXd,Tryz.f23,n0,if_false,d0,d1,d2];unfold LkQ lookP;rw[if_neg h0,if_pos h1];exact⟨rfl,Fr.refl _ _⟩
  ·rw[decide_eq_false h3]at d2
   rw[decide_eq_true (h1.resolve_left h3)]at d3;simp -implicitDefEqProofs only[go_sem,j7,bSe,Tryz.f23,n0,if_false,d0,d1,d2,d3];unfold LkQ lookP;rw[if_neg h0,if_pos h1];exact⟨rfl,Fr.refl _ _⟩
 have h3:¬ im.length / 256<3:=fun e=>h1 (.inl e);have h4:¬ 4096<im.length / 256:=fun e=>h1 (.inr e);rw[decide_eq_false h3]at d2;rw[decide_eq_false h4]at d3;have b1:=bldSight a im.length cap w.heap.size (w.heap.size+1);simp -implicitDefEqProofs only[go_sem,j7,yU,bSe,Tryz.f23,n0,if_false,d0,d1,d2,d3,b1];obtain⟨b,o,e9,he,c7⟩:=hi.pos x8;cases he
 have a8:b<w.heap.size:=by
  obtain⟨_,_,e,_,h⟩:=hi.at;obtain⟨_,_,e',h⟩:=h 0 x8;cases e;cases e';exact rc_lt h
 have T:∀ b',qQf (.slice (some ⟨b,o,none⟩) im.length cap)=some b'->b'<w.heap.size:=fun b' hb=>by cases hb;exact a8
 obtain⟨W,hW,f1,k1,k2,k3,s1⟩:=allocS w (sgC (.slice (some ⟨b,o,none⟩) im.length cap) sup00 w.heap.size (w.heap.size+1) nS nS nS nS);rw[hW];have J:=sgNew (u:=w) (fun _=>none) k3 (hi.fr0 f1) k1 k2 x8 x8 (xC _) x8;refine qQa pl42 ((sight_page J rfl H hl (p:=0) x8).mono ?_);rintro _ w5 ⟨e5,rfl⟩;rw[e5];simp -implicitDefEqProofs only[go_sem,j7];refine qQa pl42 ((sight_page J rfl H hl (p:=1) x8).mono ?_);rintro _ w6 ⟨e6,rfl⟩;rw[e6];simp -implicitDefEqProofs only[go_sem,j7];have p0:=page_by (hi.fr0 f1) (p:=0) x8 H;have p1:=page_by (hi.fr0 f1) (p:=1) x8 H;refine qQa pl41 ((choose W p0 x8 p1 x8).mono ?_);rintro _ w7 ⟨O,hq⟩
 cases N:qZc (pgB im 0) (pgB im 1) with
 | error e =>
  rw[N]at hq;subst hq;have k7:=O.at k3 id;have q7:wrO prog 67 w7 (w.heap.size+2) 1 (.agg sup0)=some (put w7 (w.heap.size+2) (.cells (sgC (.slice (some ⟨b,o,none⟩) im.length cap) sup00 w.heap.size (w.heap.size+1) nS nS nS nS) 73 (0,0))):=wrSup (s:=sup00) (s':=sup00) k7;have ne:=qWf N;simp -implicitDefEqProofs only[go_sem,j7,jV,q7,ne];have A:lookP im=.error e:=by unfold lookP;rw[if_neg h0,if_neg h1,N]
  unfold LkQ;rw[A];exact⟨rfl,(f1.trans O).put (b:=w.heap.size+2) _ fun h=>by omega⟩
 | ok s =>
  rw[N]at hq;subst hq;have k7:=O.at k3 id;have q7:wrO prog 67 w7 (w.heap.size+2) 1 (.agg (supC s))=some (put w7 (w.heap.size+2) (.cells (sgC (.slice (some ⟨b,o,none⟩) im.length cap) s w.heap.size (w.heap.size+1) nS nS nS nS) 73 (0,0))):=wrSup (s:=sup00) (s':=s) k7;have I:=chooseP_ok N;have k8:=qQd (o:=.cells (sgC (.slice (some ⟨b,o,none⟩) im.length cap) s w.heap.size (w.heap.size+1) nS nS nS nS) 73 (0,0)) k7;have f8:=(f1.trans O).put (b:=w.heap.size+2) (.cells (sgC (.slice (some ⟨b,o,none⟩) im.length cap) s w.heap.size (w.heap.size+1) nS nS nS nS) 73 (0,0)) fun h=>by omega
  have c8:=(qQh (b:=w.heap.size+2) (o:=.cells (sgC (.slice (some ⟨b,o,none⟩) im.length cap) s w.heap.size (w.heap.size+1) nS nS nS nS) 73 (0,0)) ((O.blk _ (qQi k1) id).trans k1) x8)
  have c9:=(qQh (b:=w.heap.size+2) (o:=.cells (sgC (.slice (some ⟨b,o,none⟩) im.length cap) s w.heap.size (w.heap.size+1) nS nS nS nS) 73 (0,0)) ((O.blk _ (qQi k2) id).trans k2) x8)
  have a9:((0:Int) != 0)=false:=rfl;have np:=natne s.pages (im.length / 256);have r5:rdO prog 3 (put w7 (w.heap.size+2) (.cells (sgC (.slice (some ⟨b,o,none⟩) im.length cap) s w.heap.size (w.heap.size+1) nS nS nS nS) 73 (0,0))) (w.heap.size+2) 5=some (.int .i64 (s.pages:Nat)):=rd1 agg3 k8 rfl
  by_cases U:s.pages≠im.length / 256
  ·rw[decide_eq_true U]at np
   simp -implicitDefEqProofs only[go_sem,j7,vS,bNe,jV,q7,r5,np];have A:lookP im=.error 4:=by unfold lookP;rw[if_neg h0,if_neg h1,N];exact if_pos U
   unfold LkQ;rw[A];exact⟨rfl,f8⟩
  rw[decide_eq_false U]at np;have A:lookP im=.ok (s,qKx im s):=by unfold lookP;rw[if_neg h0,if_neg h1,N];exact if_neg U
  simp -implicitDefEqProofs only[go_sem,j7,vS,bNe,jV,q7,r5,np];have d4:=sgNew (u:=w) (pgF im s.mark) k8 (hi.fr0 f8) c8 c9 x8 x8 (xC _) x8;generalize put w7 (w.heap.size+2) (.cells (sgC (.slice (some ⟨b,o,none⟩) im.length cap) s w.heap.size (w.heap.size+1) nS nS nS nS) 73 (0,0))=W8 at *;refine qQa pl43 ((rules W8).mono ?_);rintro _ Z ⟨rfl,f9⟩;have d5:=d4.fr0 f9;obtain⟨WA,d6,fA,kA,sA⟩:=qQl Z #[.nilIface,.nilIface] 120;have qA:wrO prog 120 WA Z.heap.size 0 (.agg #[zrV,loV])=some (put WA Z.heap.size (.cells #[zrV,loV] 120 (0,0))):=qQo sz120 kA rfl (by rw[<- Array.all_toList];rfl);have kB:=qQd (o:=.cells #[zrV,loV] 120 (0,0)) kA;have fB:=fA.put (b:=Z.heap.size) (.cells #[zrV,loV] 120 (0,0)) fun h=>by omega
  have b0:=d5.fr0 fB;have d7:No w (put WA Z.heap.size (.cells #[zrV,loV] 120 (0,0))):=(f8.trans f9).trans fB;have r3:rdO prog 3 (put WA Z.heap.size (.cells #[zrV,loV] 120 (0,0))) (w.heap.size+2) 3=some (.int .i64 (s.mark:Nat)):=rd1 agg3 b0.row rfl;simp -implicitDefEqProofs only[go_sem,j7,vS,yU,jV,d6,qA,r3];generalize put WA Z.heap.size (.cells #[zrV,loV] 120 (0,0))=WB at *;refine loopD [5,7,56,57] (lkI w (w.heap.size+2) (.slice (some ⟨b,o,none⟩) im.length cap) im s w.heap.size (w.heap.size+1) Z.heap.size) s.mark ⟨0,nS,nS,[],[],rfl,jJ _,rfl,b0,d7,kB⟩ ?_;rintro _ vs w5 g ⟨i,cv,fv,nl,rl,rfl,f0,rfl,J,B,L⟩
  by_cases d8:i<s.mark
  ·have dl:=dTo ((i:Int)<(s.mark:Int))
   have b3:=qQm (P:=prog) (t:=120) agg120 sz120 L;simp -implicitDefEqProofs only[go_sem,j7,dl,b3];have a0:IntKind.i64.wrap ((i:Int)+1)=((i+1:Nat):Int):=qXa (b:=1) (by have:=I.2.2.1;have:=I.2.2.2.1;omega);have b4:256*i+256<=im.length:=by have:=I.2.2.2.1;have:s.pages=im.length / 256:=Classical.not_not.1 U;omega
   have m0 : methO prog 173 "ledger/audit.wrong" = some 215 := by kernel_rfl
   have m1 : methO prog 174 "ledger/audit.wrong" = some 230 := by kernel_rfl
   refine loopD [5,7,8,56,57,60,61] (lkJ w (w.heap.size+2) (.slice (some ⟨b,o,none⟩) im.length cap) im s w.heap.size (w.heap.size+1) Z.heap.size i cv fv nl rl) 2 ⟨0,rfl,rfl,B,L,.inl ⟨rfl,J⟩⟩ ?_;clear J B L b3;rintro _ vs w5 g ⟨j,rfl,rfl,B,L,hj⟩
   rcases hj with ⟨rfl,J⟩ | ⟨rfl,J,hz⟩ | ⟨rfl,d9,e0,e1,e2,J⟩
   ·have dj:decide (((0:Nat):Int)<2)=true:=rfl
    have yA:(0:Int)<=((0:Nat):Int):=x8
    have yB:((0:Nat):Int)<((2:Nat):Int):=x8
    have pe:partO prog 119 #[zrV,loV] 0=some zrV:=x9
    simp -implicitDefEqProofs only[go_sem,j7,dj,m0,yA,yB,pe,if_true,iTn,Nat.zero_mul];rw[show (#[vG #[]]++#[pt (w.heap.size+2) 0,vU .i64 (i:Nat)])=#[vG #[],pt (w.heap.size+2) 0,vU .i64 (i:Nat)] from rfl];refine qQa pl215 ((zerosWrong J rfl H hl b4).mono ?_);rintro _ w6 ⟨rfl,R⟩;have M:=J.fr0 R;have D:=R.at L id
    by_cases hz:i<2/\zer ((pgB im i).drop 64)=false
    ·rw[if_pos hz]
     have e3:((53:Int) != 0)=true:=rfl;simp -implicitDefEqProofs only[go_sem,j7,e3];refine qQa pl44 ((sight_find M (B.trans R).size T i 53 (by have:=found1_len im i;omega)).mono ?_);rintro _ w7 ⟨rfl,O,a3,a4⟩;simp -implicitDefEqProofs only[go_sem,j7,a0];have hw:qXw im i=53:=by unfold qXw;rw[if_pos hz.1,if_pos hz.2]
     refine⟨s.mark - (i+1),x8,i+1,cv,a3,nl,rl,rfl,x8,rfl,?_,(B.trans R).trans' O (fun b hb e=>fvOff M b hb e),O.at D fun e=>fvOff2 M D j0 j0 e⟩;rw[qZl,hw,if_neg j0];exact a4.skip (pgF_none fun e=>by omega)
    ·rw[if_neg hz]
     have a9:((0:Int) != 0)=false:=rfl;have e4:IntKind.i64.wrap (((0:Nat):Int)+1)=((1:Nat):Int):=rfl;simp -implicitDefEqProofs only[go_sem,j7,bNe,e4];exact⟨1,x8,1,rfl,rfl,B.trans R,D,.inr (.inl ⟨rfl,M,hz⟩)⟩
   ·have dj:decide (((1:Nat):Int)<2)=true:=rfl
    have yA:(0:Int)<=((1:Nat):Int):=x8
    have yB:((1:Nat):Int)<((2:Nat):Int):=x8
    have pe:partO prog 119 #[zrV,loV] 1=some loV:=x9
    simp -implicitDefEqProofs only[go_sem,j7,dj,m1,yA,yB,pe,if_true,iTn,j8];rw[show (#[vG #[]]++#[pt (w.heap.size+2) 0,vU .i64 (i:Nat)])=#[vG #[],pt (w.heap.size+2) 0,vU .i64 (i:Nat)] from rfl];have a9:((0:Int) != 0)=false:=rfl;have b5:IntKind.i64.wrap (((1:Nat):Int)+1)=((2:Nat):Int):=rfl
    by_cases h2:i<2
    ·refine qQa pl230 ((loadsSmall w5 (w.heap.size+2) h2).mono ?_);rintro _ w6 ⟨rfl,R⟩
     have hw:qXw im i=0:=by unfold qXw;rw[if_pos h2,if_neg fun e=>hz ⟨h2,e⟩]
     simp -implicitDefEqProofs only[go_sem,j7,bNe,b5];exact⟨0,x8,2,rfl,rfl,B.trans R,R.at L id,.inr (.inr ⟨rfl,hw,cv,nl,rl,(J.fr0 R).skip (pgF_none fun e=>by omega)⟩)⟩
    ·have b6:pgF im s.mark i=(match qXb i (pgB im i) with | .ok g=>some g | .error _=>none):=if_pos ⟨x8,d8⟩
     refine qQa pl230 ((loadsWrong J B rfl a8 H hl b4 x8 (by have:=I.2.2.1;have:=I.2.2.2.1;omega) b6).mono ?_);rintro _ w6 ⟨rfl,R,b7,b8,b9,M⟩
     have c0:qXw im i=errP (qXb i (pgB im i)):=by unfold qXw;rw[if_neg h2];cases qXb i (pgB im i) <;> rfl
     have D:=R.at L fun e=>ldOff2 J L j0 j0 e;have a5:No w w6:=B.trans' R fun b hb e=>ldOff J b hb e;generalize errP (qXb i (pgB im i))=E at *
     by_cases hE:E=0
     ·have cE:(E != 0)=false:=by rw[hE];rfl
      simp -implicitDefEqProofs only[go_sem,j7,cE,b5];exact⟨0,x8,2,rfl,rfl,a5,D,.inr (.inr ⟨rfl,c0.trans hE,b7,b8,b9,M⟩)⟩
     ·have cE:(E != 0)=true:=by simpa using hE
      simp -implicitDefEqProofs only[go_sem,j7,cE];refine qQa pl44 ((sight_find M a5.size T i E (by have:=found1_len im i;omega)).mono ?_);rintro _ w7 ⟨rfl,O,a3,a4⟩;simp -implicitDefEqProofs only[go_sem,j7,a0];refine⟨s.mark - (i+1),x8,i+1,b7,a3,b8,b9,rfl,x8,rfl,?_,a5.trans' O (fun b hb e=>fvOff M b hb e),O.at D fun e=>fvOff2 M D j0 j0 e⟩;rw[qZl,c0,if_neg hE];exact a4
   ·have dj:decide (((2:Nat):Int)<2)=false:=rfl
    simp -implicitDefEqProofs only[go_sem,j7,dj,a0];refine⟨s.mark - (i+1),x8,i+1,e0,fv,e1,e2,rfl,x8,rfl,?_,B,L⟩;rw[qZl,if_pos d9,z4];exact J
  ·have e7:i=s.mark:=x8
   subst e7;have dl:=dFo ((s.mark:Int)<(s.mark:Int));have V:=lkOk (u:=w) (sb:=w.heap.size+2) (iv:=.slice (some ⟨b,o,none⟩) im.length cap) (im:=im) ht x8 T I
   have c3:LkM w w5 (w.heap.size+2) (.slice (some ⟨b,o,none⟩) im.length cap) im s w.heap.size (w.heap.size+1) cv nS nl rl (pgF im s.mark) (qXi im s.mark) []:=⟨⟨fv,nS,J,.inl rfl⟩,B,[],NwR.nil _ _ _ _,rfl,fun j b t h=>by cases h⟩
   obtain⟨fa,c4,c5,a6⟩:=J.fnd.rd.slice;rw[fnR_len]at c5 a6;have rf:rdO prog 23 w5 (w.heap.size+2) 10=some (.slice fa (qXi im s.mark).length c4):=by rw[<- c5];exact rd1 agg23 J.row rfl
   have nf:(((qXi im s.mark).length:Int) == 0)=decide ((qXi im s.mark).length=0):=nateq (qXi im s.mark).length 0
   by_cases Y:(qXi im s.mark).length=0
   ·rw[decide_eq_true Y]at nf
    simp -implicitDefEqProofs only[go_sem,j7,jV,dl,rf,nf];have c6:qXi im s.mark=[]:=List.length_eq_zero_iff.1 Y;rw[c6]at c3;refine qQa pl45 ((whole c3 V sm).mono ?_);rintro _ w6 ⟨rfl,e8,e6,v6⟩;simp -implicitDefEqProofs only[go_sem,j7];unfold LkQ;rw[A];refine⟨w.heap.size+2,w.heap.size,w.heap.size+1,cv,e8,nl,rl,rfl,V,?_⟩;have:qKx im s=(match qVe s.width (pgF im s.mark) (chK (pgF im s.mark) s.mark) s.mark s.head with | .ok _=>[] | .error e=>[e]):=if_pos c6;rw[this]
    cases a7:qVe s.width (pgF im s.mark) (chK (pgF im s.mark) s.mark) s.mark s.head with
    | ok x=>rw[a7]at e6;exact⟨e6,fun _=>v6 a7⟩
    | error x=>rw[a7]at e6;exact⟨e6,fun h=>by cases h⟩
   ·rw[decide_eq_false Y]at nf
    simp -implicitDefEqProofs only[go_sem,j7,jV,dl,rf,nf];unfold LkQ;rw[A];refine⟨w.heap.size+2,w.heap.size,w.heap.size+1,cv,nS,nl,rl,rfl,V,?_⟩;have:qKx im s=qXi im s.mark:=if_neg fun e=>Y (by rw[e];rfl);rw[this];exact⟨⟨B,fv,nS,J,.inl rfl⟩,fun h=>absurd (by rw[h];rfl) Y⟩
end A
end
section
namespace R
open Aud A
theorem page17 (B:World)(hi:By B iv im)(J:256*(p+1)<=im.length)(M:im.length<=2 ^ 48):Fn prog 47 #[iv,.int .i64 (p:Nat)] B fun v w'=>w'=B/\By B v (pgB im p)/\∃ b o cap,v=.slice (some ⟨b,o,Option.none⟩) 256 cap/\256<=cap:=by
 refine go47 sm ?_;obtain⟨b,o,cap,rfl,N⟩:=hi.pos x8;have c1:IntKind.i64.wrap (256*(p:Int))=((256*p:Nat):Int):=qZu (a:=256) x8;have c2:=iSu (i:=p);have L:IntKind.i64.wrap (256*((p+1:Nat):Int))=((256*(p+1):Nat):Int):=qZu (a:=256) x8;have D:=qWa (P:=prog) slc22 arr22 sz5 (a:=some ⟨b,o,.none⟩) (n:=im.length) (cap:=cap) (l:=256*p) (m:=256*(p+1)) x8 x8 x8;have hby:=hi.cutV (l:=256*p) (m:=256*(p+1)) x8 J rfl
 rw[show 256*(p+1) - 256*p=256 by omega]at hby
 have E:∃ H I A,V.cutV 1 (some ⟨b,o,.none⟩) cap (256*p) (256*(p+1))=.slice (some ⟨H,I,.none⟩) 256 A/\256<=A:=by
  obtain⟨H,I,c',e,h⟩:=hby.pos (by rw[lTk,lDr];omega);rw[lTk,lDr,Nat.min_eq_left x8]at e h;exact⟨H,I,c',e,h⟩
 simp -implicitDefEqProofs only[go_sem,j7,jV,Tryz.f47,c1,c2,L,D];exact⟨hby,E⟩
theorem opened17 (B:World)(hd:DivT B)(hi:By B iv im)(hl:im.length<=2 ^ 47):Fn prog 24 #[iv] B (SuQ B (openP im)):=by
 refine go24 sm ?_;obtain⟨ia,ic,hiv,a5⟩:=hi.slice;obtain⟨W,hW,N,k1,s1⟩:=qQl B sup0 67;have O:=qZn;have D:((256:Int)=0)=False:=sm
 have m1:((im.length:Int).tmod 256)=((im.length % 256:Nat):Int):=rfl
 have H:∀ (w:World) (vs:Array Value), No B w->w.heap[B.heap.size]?=some (.cells sup0 67 (0, 0))->vs.size=5->vs.all one=true ->
   wrO prog 67 w B.heap.size 0 (.agg vs)=some (put w B.heap.size (.cells vs 67 (0,0)))/\rdO prog 67 (put w B.heap.size (.cells vs 67 (0,0))) B.heap.size 0=some (.agg vs)/\No B (put w B.heap.size (.cells vs 67 (0,0))):=fun w vs f k h5 ho =>
  ⟨qQo (by rw[h5];exact sz67) k (by rw[h5];rfl) ho,qKs agg67 (by rw[h5];exact sz67) (qQd (o:=.cells vs 67 (0,0)) k),f.put (b:=B.heap.size) _ fun h=>absurd h (Nat.lt_irrefl _)⟩
 obtain⟨q1,q2,q3⟩:=H W sup0 N k1 rfl qZj;have I:=natne (im.length % 256) 0
 by_cases R:im.length % 256=0
 case neg =>
  have I:(((im.length % 256:Nat):Int) != 0)=true:=I.trans (decide_eq_true R);have e:openP im=.error 42:=if_pos R;rw[e,hiv];simp -implicitDefEqProofs only[go_sem,j7,yU,Tryz.f24,hW,m1,D,I,O,q1,q2];exact And.intro q3 rfl
 have I:(((im.length % 256:Nat):Int) != 0)=false:=I.trans (decide_eq_false x8);have c1:IntKind.i64.wrap ((im.length:Int).tdiv 256)=((im.length / 256:Nat):Int):=by rw[show (im.length:Int).tdiv 256=((im.length / 256:Nat):Int) from rfl];exact i64n
 have T:decide (((im.length / 256:Nat):Int)<3)=decide (im.length / 256<3):=natlt _ 3
 by_cases h2:im.length / 256<3
 ·rw[decide_eq_true h2]at T
  have e:openP im=.error 40:=by unfold openP;rw[if_neg (fun h=>h R),if_pos (.inl h2)]
  rw[e,hiv];simp -implicitDefEqProofs only[go_sem,j7,yU,qXd,Tryz.f24,hW,m1,D,I,c1,T,O,q1,q2];exact And.intro q3 rfl
 rw[decide_eq_false h2]at T;have d3:decide (((im.length / 256:Nat):Int) > 4096)=decide (4096<im.length / 256):=natlt 4096 _
 by_cases h3:4096<im.length / 256
 ·rw[decide_eq_true h3]at d3
  have e:openP im=.error 40:=by unfold openP;rw[if_neg (fun h=>h R),if_pos (.inr h3)]
  rw[e,hiv];simp -implicitDefEqProofs only[go_sem,j7,yU,bSe,Tryz.f24,hW,m1,D,I,c1,T,d3,O,q1,q2];exact And.intro q3 rfl
 rw[decide_eq_false h3]at d3
 have he : openP im = match qZc (pgB im 0) (pgB im 1) with
     | .error e => .error e
     | .ok s => if s.pages ≠ im.length / 256 then .error 4 else .ok s := by
  unfold openP;rw[if_neg (fun h=>h R),if_neg (fun h=>h.elim h2 h3)]
  rfl
 have U:=fun (w:World) (f:No B w)=>page17 w (hi.fr0 f) (p:=0) x8 x8;have V:=fun (w:World) (f:No B w)=>page17 w (hi.fr0 f) (p:=1) x8 x8;rw[hiv]at U V ⊢;simp -implicitDefEqProofs only[go_sem,j7,yU,bSe,Tryz.f24,hW,m1,D,I,c1,T,d3];refine qQa pl47 ((U W N).mono ?_);rintro v1 w2 ⟨rfl,b1,pb,po,pc,rfl,a4⟩;simp -implicitDefEqProofs only[go_sem,j7];refine qQa pl47 ((V w2 N).mono ?_);rintro v2 w3 ⟨rfl,b2,a6,a7,a8,rfl,Y⟩;simp -implicitDefEqProofs only[go_sem,j7];refine qQa pl46 ((choose5 w3 (hd.no N) b1 a4 b2 Y).mono ?_);rintro v3 E ⟨f4,A⟩;have k4:=f4.at k1 id;have Z:=N.trans f4
 cases M:qZc (pgB im 0) (pgB im 1) with
 | error e =>
  rw[M]at A;have A:v3=.tuple #[.agg sup0,.int .i64 e]:=A;subst A;have d5:((e:Int) != 0)=true:=qWf M;rw[show openP im=.error e by rw[he,M]];obtain⟨J,L,f5,k5,s5⟩:=qQl E sup0 67;have q5:wrO prog 67 J E.heap.size 0 (.agg sup0)=some (put J E.heap.size (.cells sup0 67 (0,0))):=qQo sz67 k5 rfl qZj;have f6:No E (put J E.heap.size (.cells sup0 67 (0,0))):=f5.put (b:=E.heap.size) _ fun h=>by omega
  obtain⟨z1,z2,z3⟩:=H _ sup0 (Z.trans f6) (f6.at k4 id) rfl qZj;simp -implicitDefEqProofs only[go_sem,j7,yU,L,q5,d5,O,z1,z2];exact And.intro z3 rfl
 | ok s =>
  rw[M]at A;have A:v3=.tuple #[.agg (supC s),.int .i64 0]:=A;subst A;obtain⟨J,L,f5,k5,s5⟩:=qQl E sup0 67;have q5:wrO prog 67 J E.heap.size 0 (.agg (supC s))=some (put J E.heap.size (.cells (supC s) 67 (0,0))):=qQo sz67 k5 rfl (qZz _);have k6:=qQd (o:=.cells (supC s) 67 (0,0)) k5;have f6:No E (put J E.heap.size (.cells (supC s) 67 (0,0))):=f5.put (b:=E.heap.size) _ fun h=>by omega
  have d5:((0:Int) != 0)=false:=rfl;simp -implicitDefEqProofs only[go_sem,j7,yU,bNe,jV,L,q5];generalize put J E.heap.size (.cells (supC s) 67 (0,0))=w6 at *;have a0:=Z.trans f6;have a3:=f6.at k4 id;have r4:rdO prog 3 w6 E.heap.size 4=some (.int .i64 (s.pages:Nat)):=rd1 agg3 k6 rfl;have d6:=natne s.pages (im.length / 256)
  by_cases h6:s.pages=im.length / 256
  ·rw[decide_eq_false (not_not_intro h6)]at d6
   have l6:=qQm (P:=prog) (t:=67) agg67 sz67 k6;obtain⟨z1,z2,z3⟩:=H w6 (supC s) a0 a3 rfl (qZz _);rw[show openP im=.ok s by rw[he,M];exact if_neg (not_not_intro h6)];simp -implicitDefEqProofs only[go_sem,j7,r4,d6,l6,z1,z2];exact And.intro z3 rfl
  ·rw[decide_eq_true h6]at d6
   obtain⟨z1,z2,z3⟩:=H w6 sup0 a0 a3 rfl qZj;rw[show openP im=.error 4 by rw[he,M];exact if_pos h6];simp -implicitDefEqProofs only[go_sem,j7,r4,d6,O,z1,z2];exact And.intro z3 rfl
end R
end
end Go.V
