/- Helpers. -/
import Derived.Test.YtppmpdjlmgfdkaaGreatDoorM08
set_option linter.all false
set_option maxRecDepth 100000
set_option maxHeartbeats 8000000
open List renaming length_cons->zC,append_inj'->jU,mem_append_right->zF,mem_append_left->zH,mem_cons_of_mem->zD,append_assoc->zU,length_map->zE,filter_append->jZ,getElem_map->jG,range'->jF,find?->jH,filter_cons_of_neg->jB
open Nat renaming le_refl->xC,add_sub_cancel->jD,zero_le->jJ
namespace Go.V
variable {at':Bool} {D im k v:Bs} {wd:Int} {a:List Nat} {b i n p:Nat}
section
namespace Aud
def recP (wd:Int)(first:Nat)(ats:List Nat)(u:PT)(c:Nat):Rc :=
 ⟨if 0<first then first+(ats.length+1) - 1 else ats.length+1,first,chAt ats ats.length,chAt ats (far (ats.length+1)),u.page,c,dgT wd 256 u⟩
def imgP (wd:Int)(first:Nat):List Nat->PT->Nat->List (List En)->List Pg
 | _,_,_,[]=>[]
 | ats,old,next,m::ms =>
  (news (dgT wd) next 0 (lay 256 0 true old m next).1).map Pg.nd++Pg.rc (recP wd first ats (lay 256 0 true old m next).1 m.length)::imgP wd first (ats++[(lay 256 0 true old m next).2]) (lay 256 0 true old m next).1 ((lay 256 0 true old m next).2+1) ms
def qZb:Nat->List Pg->Bs
 | _,[]=>[]
 | p,g::r=>g.bytes p++qZb (p+1) r
theorem bytesP_app:∀ (p:Nat) (a b:List Pg),qZb p (a++b)=qZb p a++qZb (p+a.length) b
 | p,[],b=>by simp[qZb]
 | p,g::a,b=>by
  rw[List.cons_append,qZb,qZb,bytesP_app (p+1) a b,zU,zC,show p+1+a.length=p+(a.length+1) by omega]
def PAt (pg:Nat->Option Pg)(next:Nat)(l:List Pg):Prop:=∀ i (h:i<l.length),pg (next+i)=some l[i]
theorem PAt.nil (pg:Nat->Option Pg)(next:Nat):PAt pg next []:=fun i h=>absurd h sm
theorem PAt_cons {pg:Nat->Option Pg}{next:Nat}{g:Pg}{l:List Pg}:PAt pg next (g::l) ↔ pg next=some g/\PAt pg (next+1) l:=by
 constructor
 ·intro h
  refine⟨h 0 sm,fun i hi=>?_⟩;have:=h (i+1) (by simpa using hi)
  rwa [show next+(i+1)=next+1+i by omega,List.getElem_cons_succ]at this
 ·rintro⟨A,h⟩ i hi
  cases i with
  | zero=>exact A
  | succ i =>
   have:=h i (by simpa using hi)
   rwa [show next+1+i=next+(i+1) by omega]at this
theorem PAt_app {pg:Nat->Option Pg}{next:Nat}{a b:List Pg}:PAt pg next (a++b) ↔ PAt pg next a/\PAt pg (next+a.length) b:=by
 induction a generalizing next with
 | nil=>simp[PAt.nil]
 | cons g a A =>
  rw[List.cons_append,PAt_cons,PAt_cons,A,and_assoc,zC,show next+1+a.length=next+(a.length+1) by omega]
theorem pnOf_nd {pg:Nat->Option Pg}{n:Nd}:pnOf pg p=some n ↔ pg p=some (.nd n) :=
 ⟨qKu,fun h=>by unfold pnOf;rw[h]⟩
theorem PAt_nd {pg:Nat->Option Pg}{next:Nat}{l:List Nd}:PAt pg next (l.map Pg.nd) ↔ At (pnOf pg) next l:=by
 constructor
 ·intro h i hi
  have:=h i (by simpa using hi);rw[jG]at this;exact pnOf_nd.2 this
 ·intro h i hi
  rw[jG];exact pnOf_nd.1 (h i (by simpa using hi))
theorem PAt_rc {pg:Nat->Option Pg}{r:Rc}(h:pg p=some (.rc r)):rcAt pg p=r:=by unfold rcAt;rw[h]
theorem chF_succ (pg:Nat->Option Pg)(k:Nat):chF pg (k+1)=chF pg k++(match pg k with | some (.rc _)=>[k] | _=>[]):=by
 unfold chF;rw[List.range_succ,jZ]
 congr 1
 cases h:pg k with
 | none=>simp[h]
 | some g=>cases g <;> simp[h]
theorem chF_nds {pg:Nat->Option Pg}{next:Nat}{l:List Nd}(h:PAt pg next (l.map Pg.nd)):chF pg (next+l.length)=chF pg next:=by
 induction l generalizing next with
 | nil=>rfl
 | cons n l A =>
  rw[List.map_cons,PAt_cons]at h;have:=A h.2;rw[zC,show next+(l.length+1)=next+1+l.length by omega,this,chF_succ,h.1]
  simp
theorem chF_pre (pg:Nat->Option Pg){k m:Nat}(h:k<=m):∃ r,chF pg m=chF pg k++r:=by
 obtain⟨d,rfl⟩:∃ d,m=k+d:=⟨m - k,x8⟩
 clear h
 induction d with
 | zero=>exact⟨[],sm⟩
 | succ d A =>
  obtain⟨r,B⟩:=A;exact⟨_,by rw[show k+(d+1)=k+d+1 by omega,chF_succ,B,zU]⟩
theorem chAt_pre {a b:List Nat}(h:i<=a.length):chAt (a++b) i=chAt a i:=by
 unfold chAt
 by_cases A:i=0
 ·rw[if_pos A,if_pos A]
 ·rw[if_neg A,if_neg A,gDq,gDq,List.getElem?_append_left x8]
theorem chAt_last (a:List Nat)(p:Nat):chAt (a++[p]) (a.length+1)=p:=by
 unfold chAt;rw[if_neg x8,gDq,jD,List.getElem?_append_right (xC _),Nat.sub_self]
 rfl
theorem far_lt (h:1<=i):far i<i:=by
 have:i &&& (i - 1)<=i - 1:=Nat.and_le_right;unfold far;omega
theorem map_uniq {m:List En}(h:Map n m):∀ e ∈ m,∀ A ∈ m,e.1=A.1->e=A:=by
 intro e J A B E;obtain⟨i,hi,rfl⟩:=List.mem_iff_getElem.1 J;obtain⟨j,H,rfl⟩:=List.mem_iff_getElem.1 B;have I:=List.pairwise_iff_getElem.1 h.1
 rcases Nat.lt_trichotomy i j with g | g | g
 ·have:=(I i j hi H g).1
  rw[E]at this;exact absurd this (qZp _)
 ·subst g;rfl
 ·have:=(I j i H hi g).1
  rw[E]at this;exact absurd this (qZp _)
section
variable {wd:Int} {pg:Nat->Option Pg} {mark first:Nat}
theorem img_vers (hpg:PgOk pg mark):∀ (ms:List (List En)) {ats:List Nat} {old:PT} {next:Nat}, chF pg next=ats->old.Wf 0->Stands (dgT wd) (pnOf pg) 0 old->old.page<next->Map 0 old.ents->next=max 1 (chAt ats ats.length)+1->(∀ m ∈ ms, Map 0 m) ->
  first=(rcAt pg (chAt (chF pg mark) 1)).first->PAt pg next (imgP wd first ats old next ms)->next+(imgP wd first ats old next ms).length=mark ->
  versP wd pg (chF pg mark) ms.length (ats.length+1) old=.ok ()/\(chF pg mark).length=ats.length+ms.length/\max 1 (chAt (chF pg mark) (chF pg mark).length)+1=mark
 | [],ats,old,next,B,_,_,_,_,O,_,_,_,A=>by
  have A:next=mark:=A;subst A;refine⟨rfl,by rw[B];rfl,?_⟩;rw[B];exact O.symm
 | m::ms,ats,old,next,B,R,U,V,a6,O,W,Y,H,A=>by
  rw[imgP]at H A
  cases hL:lay 256 0 true old m next with
  | mk t p =>
  rw[hL]at H A;have hM:=W m sm;obtain⟨Z,I,b0⟩:=lay_ok (f:=256) (n:=0) rfl x8 R hM x8 hL;obtain⟨a7,hp,a8⟩:=lay_stands (dg:=dgT wd) (pg:=pnOf pg) (fresh:=next) x8 (f:=256) (n:=0) rfl x8 R hM U V (xC _) hL;rw[PAt_app,PAt_cons,zE,<- hp]at H;obtain⟨J,L,a0⟩:=H;have M:=chF_nds J;rw[<- hp,B]at M;have N:chF pg (p+1)=ats++[p]:=by rw[chF_succ,M,L]
  have a3:=a8.2 (PAt_nd.1 J);have hrc:=PAt_rc L;simp only[lAp,zE,zC]at A;obtain⟨r,hr⟩:=chF_pre pg (k:=p+1) (m:=mark) x8;rw[N]at hr;have E:(ats++[p]).length=ats.length+1:=sm
  have c1:∀ i,i<=ats.length->chAt (chF pg mark) i=chAt ats i:=fun i hi=>by
   rw[hr,chAt_pre (by rw[E];omega),chAt_pre hi]
  have c2:chAt (chF pg mark) (ats.length+1)=p:=by rw[hr,chAt_pre (by rw[E];omega),chAt_last]
  have a4:∀ e ∈ t.ents,e.1.length=32:=fun e he=>by rw[I]at he;exact hM.2 e he
  have a5:Ver wd (pnOf pg) next old p (rcAt pg p) t:=by
   rw[hrc];exact⟨Z,a3,rfl,by rw[I];rfl,rfl,a4,by rw[I];exact hL,a7⟩
  have T:=root1_conv R U (map_uniq a6) V a5
  have a9:chainR pg (chF pg mark) (ats.length+1):=by
   unfold chainR;rw[c2,hrc,<- Y,jD,c1 _ (xC _),c1 _ (by have:=far_lt (i:=ats.length+1) x8;omega)];exact⟨rfl,rfl,rfl,rfl⟩
  have hv:verP wd pg (chF pg mark) (ats.length+1) old=.ok t:=by
   unfold verP;rw[if_pos a9,c2,jD,c1 _ (xC _),<- O];exact T
  have ih:=img_vers hpg ms (ats:=ats++[p]) (old:=t) (next:=p+1) N Z a3 x8 (by rw[I];exact hM) (by rw[E,chAt_last];omega) (fun m hm=>W m (zD _ hm)) Y a0 x8;rw[E]at ih;refine⟨?_,by rw[ih.2.1,zC];omega,ih.2.2⟩;rw[zC,versP,hv];exact ih.1
theorem vers_img (hpg:PgOk pg mark)(J:VsOk wd pg (chF pg mark))(E:first=(rcAt pg (chAt (chF pg mark) 1)).first):∀ (n:Nat) {i:Nat}, i+n=(chF pg mark).length ->
  PAt pg (max 1 (chAt (chF pg mark) i)+1) (imgP wd first ((chF pg mark).take i) (trP wd pg (chF pg mark) i) (max 1 (chAt (chF pg mark) i)+1) ((jF i n).map fun j=>(trP wd pg (chF pg mark) (j+1)).ents)) /\
  (max 1 (chAt (chF pg mark) i)+1)+(imgP wd first ((chF pg mark).take i) (trP wd pg (chF pg mark) i) (max 1 (chAt (chF pg mark) i)+1) ((jF i n).map fun j=>(trP wd pg (chF pg mark) (j+1)).ents)).length=max 1 (chAt (chF pg mark) (chF pg mark).length)+1
 | 0,i,hi=>by
  rw[Nat.add_zero]at hi;subst hi;exact⟨PAt.nil _ _,rfl⟩
 | n+1,i,hi=>by
  obtain⟨L,M,N,_⟩:=J.trees hpg (i:=i) x8;obtain⟨O,R,a0,hc⟩:=J.trees hpg (i:=i+1) x8;obtain⟨B,A⟩:=hc x8;rw[jD]at A;obtain⟨_,_,v3,v4,v5,v6,v7,v8⟩:=A;have T:=vers_img hpg J E n (i:=i+1) x8;have U:=hpg.ch (i:=i+1) x8 x8
  have hM:Map 0 (trP wd pg (chF pg mark) (i+1)).ents:=wf_map (row:=zrow) x8 O fun e he=>⟨jJ _,v6 e he⟩
  obtain⟨_,hp,V⟩:=lay_stands (dg:=dgT wd) (pg:=pnOf pg) (fresh:=max 1 (chAt (chF pg mark) i)+1) x8 (f:=256) (n:=0) rfl x8 L hM M N (xC _) v7
  have W:(chF pg mark).take (i+1)=(chF pg mark).take i++[chAt (chF pg mark) (i+1)]:=by
   obtain⟨hl,e⟩:=chAt_get (ch:=chF pg mark) (i:=i+1) x8 x8;rw[e,tSg x8]
   rfl
  have Y:((chF pg mark).take i).length=i:=by rw[lTk];omega
  have Z:max 1 (chAt (chF pg mark) (i+1))=chAt (chF pg mark) (i+1):=x8
  have H:∀ k,k<=i->chAt ((chF pg mark).take i) k=chAt (chF pg mark) k:=fun k hk=>by
   conv=>rhs;rw[<- List.take_append_drop i (chF pg mark)]
   rw[chAt_pre x8]
  have I:recP wd first ((chF pg mark).take i) (trP wd pg (chF pg mark) (i+1)) (trP wd pg (chF pg mark) (i+1)).ents.length=rcAt pg (chAt (chF pg mark) (i+1)):=by
   unfold chainR at B;rw[<- E,jD]at B;obtain⟨h1,h2,h3,h4⟩:=B;unfold recP;rw[Y,H _ (xC _),H _ (by have:=far_lt (i:=i+1) x8;omega),<- h2,<- h3,<- h4,v3,v4,v5]
   conv=>lhs;rw[<- h1]
  rw[List.range'_succ,List.map_cons,imgP,v7];dsimp only;rw[Z,W]at T;rw[PAt_app,PAt_cons,zE,<- hp,I,PAt_nd];refine⟨⟨V.1 R,U.2.2,T.1⟩,?_⟩;rw[lAp,zC,zE,<- T.2];omega
end
end Aud
end
namespace Aud
theorem kid_cnt (n:Nat)(o:PT):(kid n false o).pgs.length+(kid n true o).pgs.length<=o.pgs.length:=by
 cases o with
 | nil=>exact xC _
 | leaf p k v =>
  show (if kbit k n=false then PT.leaf p k v else PT.nil).pgs.length+(if kbit k n=true then PT.leaf p k v else PT.nil).pgs.length<=1
  cases kbit k n <;> simp[PT.pgs]
 | br p l r =>
  show l.pgs.length+r.pgs.length<=(p::(l.pgs++r.pgs)).length;rw[zC,lAp];omega
theorem pageOf_cnt {o:PT}(h:pageOf k v o=some p):1<=o.pgs.length:=List.length_pos_of_mem (qKo h)
theorem lay_cnt:∀ {f n:Nat} {at':Bool} {o:PT} {m:List En} {next:Nat} {t:PT} {next':Nat},lay f n at' o m next=(t,next')->t.pgs.length+next<=o.pgs.length+next':=by
 intro f
 have one:∀ {k v:Bs} {o:PT} {next:Nat} {t:PT} {next':Nat},(match pageOf k v o with | some p=>(PT.leaf p k v,next) | none=>(PT.leaf next k v,next+1))=(t,next')->t.pgs.length+next<=o.pgs.length+next':=fun {k v o next t next'} h=>by
  cases B:pageOf k v o with
  | some q =>
   rw[B]at h;cases h;have:=pageOf_cnt B;show 1+_<=_;omega
  | none =>
   rw[B]at h;cases h;show 1+_<=_;omega
 induction f with
 | zero =>
  intro n at' o m next t next' h
  cases m with
  | nil=>unfold lay at h;cases h;show 0+_<=_;omega
  | cons e r=>unfold lay at h;exact one h
 | succ f I =>
  intro n at' o m next t next' h
  cases m with
  | nil=>unfold lay at h;cases h;show 0+_<=_;omega
  | cons e r =>
   unfold lay at h;split at h
   ·cases h;exact xC _
   ·split at h
    ·exact one h
    ·obtain⟨l,A,J⟩:∃ l A,lay f (n+1) (at' && isBr o) (kid n false o) ((e::r).filter fun x=>!kbit x.1 n) next=(l,A):=⟨_,_,rfl⟩
     obtain⟨E,H,L⟩:∃ E H,lay f (n+1) (at' && isBr o) (kid n true o) ((e::r).filter fun x=>kbit x.1 n) A=(E,H):=⟨_,_,rfl⟩
     rw[J]at h;have h:(PT.br (lay f (n+1) (at' && isBr o) (kid n true o) ((e::r).filter fun x=>kbit x.1 n) A).2 l (lay f (n+1) (at' && isBr o) (kid n true o) ((e::r).filter fun x=>kbit x.1 n) A).1,(lay f (n+1) (at' && isBr o) (kid n true o) ((e::r).filter fun x=>kbit x.1 n) A).2+1)=(t,next'):=h;rw[L]at h;cases h;have a:=I J;have b:=I L;have c:=kid_cnt n o;show (H::(l.pgs++E.pgs)).length+_<=_;rw[zC,lAp];omega
def leavesP (pn:Nat->Option Nd)(n:Nat)(A:List Nat)(B:List En):Option (List En) :=
 match A with
 | []=>some B
 | p::r =>
  if p=0 then leavesP pn (n - 1) r B
  else if I:n=0 then none
  else match pn p with
   | none=>none
   | some (.leaf k v)=>leavesP pn (n - 1) r (B++[(k,v)])
   | some (.br E H _ _ _ _)=>leavesP pn (n - 1) (H::E::r) B
termination_by (n,A.length)
decreasing_by
 ·simp_wf;rw[Prod.lex_def];show n - 1<n∨_;by_cases h:n=0
  ·right;subst h;exact⟨rfl,sm⟩
  ·left;omega
 ·simp_wf;rw[Prod.lex_def];left;show n - 1<n;omega
 ·simp_wf;rw[Prod.lex_def];left;show n - 1<n;omega
theorem qWe (pn:Nat->Option Nd)(n:Nat)(A:List En):leavesP pn n [] A=some A:=by rw[leavesP]
theorem qXm (pn:Nat->Option Nd)(n p:Nat)(r:List Nat)(A:List En):leavesP pn n (p::r) A=if p=0 then leavesP pn (n - 1) r A
  else if n=0 then none
  else match pn p with
   | none=>none
   | some (.leaf k v)=>leavesP pn (n - 1) r (A++[(k,v)])
   | some (.br B E _ _ _ _)=>leavesP pn (n - 1) (E::B::r) A:=by
 conv=>lhs;rw[leavesP]
 rfl
def PT.rl:PT->List En
 | .nil=>[]
 | .leaf _ k v=>[(k,v)]
 | .br _ l r=>r.rl++l.rl
theorem rl_perm:∀ t:PT,t.rl.Perm t.ents
 | .nil=>List.Perm.refl _
 | .leaf _ _ _=>List.Perm.refl _
 | .br _ l r=>((rl_perm r).append (rl_perm l)).trans List.perm_append_comm
def PT.pops:PT->Nat
 | .nil=>1
 | .leaf _ _ _=>1
 | .br _ l r=>1+r.pops+l.pops
theorem pops_le:∀ t:PT,t.pops<=2*t.pgs.length+1
 | .nil=>by decide
 | .leaf _ _ _=>by show 1<=2*1+1;decide
 | .br p l r=>by
  have:=pops_le l;have:=pops_le r;show 1+r.pops+l.pops<=2*(p::(l.pgs++r.pgs)).length+1;rw[zC,lAp];omega
theorem leaves_tree {dg:Nat->PT->Bs}{pn:Nat->Option Nd}:∀ (t:PT) {d n:Nat} {r:List Nat} {A:List En},t.Wf d->Stands dg pn d t->t.pops<=n->leavesP pn n (t.page::r) A=leavesP pn (n - t.pops) r (A++t.rl)
 | .nil,d,n,r,A,_,_,E=>by
  rw[show PT.nil.page=0 from rfl,qXm,if_pos rfl];show _=leavesP pn (n - 1) r (A++[]);rw[List.append_nil]
 | .leaf p k v,d,n,r,A,I,B,E=>by
  have J:2<=p:=I;have B:pn p=_:=B;have E:1<=n:=E;rw[show (PT.leaf p k v).page=p from rfl,qXm,if_neg x8,if_neg x8,B]
  rfl
 | .br p l H,d,n,r,A,I,B,E=>by
  have J:2<=p:=I.1;have E:1+H.pops+l.pops<=n:=E;rw[show (PT.br p l H).page=p from rfl,qXm,if_neg x8,if_neg x8,B.1];show leavesP pn (n - 1) (H.page::l.page::r) A=leavesP pn (n - (1+H.pops+l.pops)) r (A++(H.rl++l.rl));rw[leaves_tree H I.2.2.2.2.2.2 B.2.2.2.2 x8,leaves_tree l I.2.2.2.2.2.1 B.2.2.2.1 x8,zU]
  congr 1
  omega
theorem leaves_mem {pn:Nat->Option Nd}:∀ {n:Nat} {A:List Nat} {B l:List En},leavesP pn n A B=some l->∀ e ∈ l,e ∈ B∨∃ p,pn p=some (.leaf e.1 e.2):=by
 intro n A B
 induction n,A,B using leavesP.induct (pn:=pn) with
 | case1 n B=>intro l h e E;rw[qWe]at h;cases h;exact .inl E
 | case2 n B r J=>intro l h e E;rw[qXm,if_pos rfl]at h;exact J h e E
 | case3 B p r H=>intro l h e E;rw[qXm,if_neg H,if_pos rfl]at h;cases h
 | case4 n B p r H L I=>intro l h e E;rw[qXm,if_neg H,if_neg L,I]at h;cases h
 | case5 n B p r H L k v I J =>
  intro l h e E;rw[qXm,if_neg H,if_neg L,I]at h
  rcases J h e E with h1 | h1
  ·rcases List.mem_append.1 h1 with h1 | h1
   ·exact .inl h1
   ·rw[List.mem_singleton.1 h1];exact .inr ⟨p,I⟩
  ·exact .inr h1
 | case6 n B p r H L M N a b c d I J =>
  intro l h e E;rw[qXm,if_neg H,if_neg L,I]at h;exact J h e E
def Nd.fit:Nd->Prop
 | .leaf k v=>k.length=32/\v.length<=128
 | .br A B lc rc E rs=>(A<2 ^ 32/\B<2 ^ 32/\lc<2 ^ 32/\rc<2 ^ 32)/\E.length=32/\rs.length=32
def Rc.fit (r:Rc):Prop:=(r.ver<2 ^ 32/\r.first<2 ^ 32/\r.prev<2 ^ 32/\r.skip<2 ^ 32/\r.root<2 ^ 32/\r.count<2 ^ 32)/\r.sum.length=32
def Pg.fit:Pg->Prop
 | .nd n=>n.fit
 | .rc r=>r.fit
theorem fit_len {g:Pg}(h:g.fit):g.load.length<=246:=by
 cases g with
 | nd n =>
  cases n with
  | leaf k v =>
   obtain⟨A,B⟩:=h;show (k++v).length<=246;rw[lAp];omega
  | br E H lc rc I rs =>
   obtain⟨_,A,B⟩:=h;show (leB 4 E++leB 4 H++leB 4 lc++leB 4 rc++I++rs).length<=246;simp only[lAp,qQt];omega
 | rc r=>show (lodR r).length<=246;rw[lodR_len h.2];decide
theorem chR_fit {p c:Nat}{s:Bs}(h:chR p c s):p<2 ^ 32/\c<2 ^ 32:=by have:=chR_lt h;omega
theorem right_fit {g:Pg}(h:g.right):g.fit:=by
 cases g with
 | nd n =>
  cases n with
  | leaf k v=>exact h
  | br W Y lc rc Z rs =>
   obtain⟨E,I,J⟩:=h;have a:=chR_fit E.1;have b:=chR_fit E.2.1;exact⟨⟨a.1,b.1,a.2,b.2⟩,I,J⟩
 | rc r =>
  obtain⟨⟨E,I,J,M,N,L⟩,O⟩:=h
  have A:r.root<2 ^ 32:=by
   by_cases R:r.root=0
   ·omega
   ·have:=(N R).2;omega
  have T:r.count<2 ^ 32:=by rcases M with h | h <;> omega
  have B:r.prev<2 ^ 32/\r.skip<2 ^ 32:=by
   split at L
   ·omega
   ·obtain⟨U,H⟩:=L
    have V:=U.2;refine⟨x8,?_⟩;unfold qXt at H;split at H
    ·omega
    ·split at H
     ·omega
     ·omega
  exact⟨⟨x8,x8,B.1,B.2,A,T⟩,O⟩
theorem qJz {a b:Nat}(A:a<2 ^ 32)(B:b<2 ^ 32)(h:leB 4 a=leB 4 b):a=b:=leB_inj (n:=4) x8 x8 h
theorem bytes_inj {a b:Pg}(hp:p<4096)(B:a.fit)(E:b.fit)(h:a.bytes p=b.bytes p):a=b:=by
 have kr:∀ g:Pg,1<=g.kind/\g.kind<=3:=fun g=>by
  cases g with
  | nd n =>
   cases n with
   | leaf k v=>exact⟨xC 1,show 1<=3 by decide⟩
   | br=>exact⟨show 1<=2 by decide,show 2<=3 by decide⟩
  | rc r=>exact⟨show 1<=3 by decide,xC 3⟩
 have L:=(unp_iff (raw:=a.bytes p) (qJa (fit_len B)) hp (k:=a.kind) (l:=a.load)).2 ⟨kr a,fit_len B,rfl⟩;have ub:=(unp_iff (raw:=b.bytes p) (qJa (fit_len E)) hp (k:=b.kind) (l:=b.load)).2 ⟨kr b,fit_len E,rfl⟩;rw[h,ub]at L;simp only[Except.ok.injEq,Prod.mk.injEq]at L;obtain⟨J,A⟩:=L;clear ub h
 cases a with
 | nd n =>
  cases b with
  | nd m =>
   cases n with
   | leaf k v =>
    cases m with
    | leaf k' v' =>
     have A:k'++v'=k++v:=A;obtain⟨H,I⟩:=List.append_inj A (by rw[B.1,E.1]);rw[H,I]
    | br=>cases J
   | br lp rp lc rc ls rs =>
    cases m with
    | leaf=>cases J
    | br M N O R T U =>
     obtain⟨⟨a1,a2,V,W⟩,a5,a6⟩:=B;obtain⟨⟨Y,b2,Z,b4⟩,b5,b6⟩:=E;have A:leB 4 M++leB 4 N++leB 4 O++leB 4 R++T++U=leB 4 lp++leB 4 rp++leB 4 lc++leB 4 rc++ls++rs:=A;obtain⟨A,e6⟩:=jU A x8;obtain⟨A,e5⟩:=jU A x8;obtain⟨A,e4⟩:=jU A (by rw[qQt,qQt]);obtain⟨A,e3⟩:=jU A (by rw[qQt,qQt]);obtain⟨H,I⟩:=jU A (by rw[qQt,qQt]);rw[qJz Y a1 H,qJz b2 a2 I,qJz Z V e3,qJz b4 W e4,e5,e6]
  | rc r=>cases n <;> cases J
 | rc r =>
  cases b with
  | nd m=>cases m <;> cases J
  | rc s =>
   obtain⟨⟨a1,a2,V,W,a5,a6⟩,a7⟩:=B;obtain⟨⟨Y,b2,Z,b4,b5,b6⟩,b7⟩:=E;have A:leB 4 s.ver++leB 4 s.first++leB 4 s.prev++leB 4 s.skip++leB 4 s.root++leB 4 s.count++s.sum=leB 4 r.ver++leB 4 r.first++leB 4 r.prev++leB 4 r.skip++leB 4 r.root++leB 4 r.count++r.sum:=A;obtain⟨A,e7⟩:=jU A x8;obtain⟨A,e6⟩:=jU A (by rw[qQt,qQt]);obtain⟨A,e5⟩:=jU A (by rw[qQt,qQt]);obtain⟨A,e4⟩:=jU A (by rw[qQt,qQt]);obtain⟨A,e3⟩:=jU A (by rw[qQt,qQt]);obtain⟨H,I⟩:=jU A (by rw[qQt,qQt]);cases r;cases s;simp only[Pg.rc.injEq,Rc.mk.injEq];exact⟨(qJz Y a1 H).symm,(qJz b2 a2 I).symm,(qJz Z V e3).symm,(qJz b4 W e4).symm,(qJz b5 a5 e5).symm,(qJz b6 a6 e6).symm,e7.symm⟩
theorem bytesP_iff {im:Bs}:∀ (G:List Pg) {p:Nat},(∀ g ∈ G,g.fit)->256*(p+G.length)<=im.length->(qZb p G=(im.drop (256*p)).take (256*G.length) ↔ ∀ i (h:i<G.length),G[i].bytes (p+i)=pgB im (p+i))
 | [],p,_,_=>by simp[qZb]
 | g::G,p,B,H=>by
  rw[zC]at H;have E:=bytesP_iff (im:=im) G (p:=p+1) (fun x I=>B x (zD _ I)) x8
  have e:(im.drop (256*p)).take (256*(g::G).length)=pgB im p++(im.drop (256*(p+1))).take (256*G.length):=by
   unfold pgB;rw[zC,show 256*(G.length+1)=256+256*G.length by omega,List.take_add,List.drop_drop,show 256*p+256=256*(p+1) by omega]
  rw[e,qZb];constructor
  ·intro h
   obtain⟨J,L⟩:=List.append_inj h (by rw[pgB_len x8];exact qJa (fit_len (B g sm)));intro i hi
   cases i with
   | zero=>exact J
   | succ i =>
    have:=E.1 L i (by simpa using hi)
    rwa [show p+1+i=p+(i+1) by omega]at this
  ·intro h
   have A:=h 0 sm;rw[Nat.add_zero]at A;have A:g.bytes p=pgB im p:=A
   rw[A,E.2 fun i hi=>by
    have:=h (i+1) (by simpa using hi)
    rwa [show p+(i+1)=p+1+i by omega]at this]
def MapOk (m:List En):Prop:=Map 0 m/\∀ e ∈ m,e.2.length<=128
theorem qJd (wd:Int):∀ (h:Nat) (t:PT),(dgT wd h t).length=32
 | h,.nil=>qQy wd h
 | h,.leaf _ k v=>qKi _ _ _ _ _ (qZo _ _ _)
 | h,.br _ l r=>qXp _ _ _
theorem said_len (wd:Int)(h:Nat)(t:PT):(said (dgT wd) h t).length=32:=by
 cases t with
 | nil=>exact lRe
 | leaf p k v=>exact qJd wd h _
 | br p l r=>exact qJd wd h _
theorem news_fit (wd:Int)(fresh:Nat):∀ (t:PT) (n:Nat),(∀ p ∈ t.pgs,p<2 ^ 32)->t.ents.length<2 ^ 32->(∀ e ∈ t.ents,e.1.length=32/\e.2.length<=128)->∀ g ∈ news (dgT wd) fresh n t,g.fit
 | .nil,n,_,_,_=>fun g A=>by cases A
 | .leaf p k v,n,_,_,I=>fun g A=>by
  unfold news at A;split at A
  ·rw[List.mem_singleton.1 A];exact I (k,v) (by simp[PT.ents])
  ·cases A
 | .br p l r,n,M,J,I=>fun g A=>by
  have J:(l.ents++r.ents).length<2 ^ 32:=J;rw[lAp]at J;have B:∀ q ∈ l.pgs,q<2 ^ 32:=fun q L=>M q (zD _ (zH _ L));have E:∀ q ∈ r.pgs,q<2 ^ 32:=fun q L=>M q (zD _ (zF _ L))
  have H:∀ t:PT,(∀ q ∈ t.pgs,q<2 ^ 32)->t.page<2 ^ 32:=fun t h=>by
   cases t with
   | nil=>show 0<2 ^ 32;omega
   | leaf q k v=>exact h q (by simp[PT.pgs])
   | br q a b=>exact h q (by simp[PT.pgs])
  unfold news at A;split at A
  ·rcases List.mem_append.1 A with A | A
   ·rcases List.mem_append.1 A with A | A
    ·exact news_fit wd fresh l (n+1) B x8 (fun e h=>I e (zH _ h)) g A
    ·exact news_fit wd fresh r (n+1) E x8 (fun e h=>I e (zF _ h)) g A
   ·rw[List.mem_singleton.1 A]
    exact⟨⟨H l B,H r E,x8,x8⟩,said_len _ _ _,said_len _ _ _⟩
  ·cases A
theorem chAt_lt (A:0<b)(h:∀ p ∈ a,p<b):chAt a i<b:=by
 unfold chAt;split
 ·exact A
 ·rw[gDq]
  by_cases hi:i - 1<a.length
  ·rw[List.getElem?_eq_getElem hi];exact h _ (List.getElem_mem hi)
  ·rw[List.getElem?_eq_none x8];exact A
theorem lay_len (dg:Nat->PT->Bs){fresh:Nat}:∀ {f n:Nat} {at':Bool} {o:PT} {m:List En} {next:Nat} {t:PT} {next':Nat},(∀ p ∈ o.pgs,p<fresh)->fresh<=next->0<fresh->lay f n at' o m next=(t,next')->next'=next+(news dg fresh n t).length:=by
 intro f
 have old:∀ {o:PT} {n:Nat},(∀ p ∈ o.pgs,p<fresh)->0<fresh->news dg fresh n o=[]:=fun {o n} A E=>news_old (by
  cases o with
  | nil=>exact E
  | leaf q k v=>exact A q (by simp[PT.pgs])
  | br q a b=>exact A q (by simp[PT.pgs]))
 have one:∀ {k v:Bs} {o:PT} {n next:Nat} {t:PT} {next':Nat},(∀ p ∈ o.pgs,p<fresh)->fresh<=next->(match pageOf k v o with | some p=>(PT.leaf p k v,next) | none=>(PT.leaf next k v,next+1))=(t,next')->next'=next+(news dg fresh n t).length:=fun {k v o n next t next'} A H h=>by
  cases B:pageOf k v o with
  | some q =>
   rw[B]at h;cases h;have:=A q (qKo B);unfold news;rw[if_neg x8];rfl
  | none =>
   rw[B]at h;cases h;unfold news;rw[if_pos H];rfl
 induction f with
 | zero =>
  intro n at' o m next t next' A H E h
  cases m with
  | nil=>unfold lay at h;cases h;rfl
  | cons e r=>unfold lay at h;exact one A H h
 | succ f L =>
  intro n at' o m next t next' A H E h
  cases m with
  | nil=>unfold lay at h;cases h;rfl
  | cons e r =>
   unfold lay at h;split at h
   ·cases h;rw[old A E];rfl
   ·split at h
    ·exact one A H h
    ·obtain⟨l,I,M⟩:∃ l I,lay f (n+1) (at' && isBr o) (kid n false o) ((e::r).filter fun x=>!kbit x.1 n) next=(l,I):=⟨_,_,rfl⟩
     obtain⟨N,J,O⟩:∃ N J,lay f (n+1) (at' && isBr o) (kid n true o) ((e::r).filter fun x=>kbit x.1 n) I=(N,J):=⟨_,_,rfl⟩
     rw[M]at h;have h:(PT.br (lay f (n+1) (at' && isBr o) (kid n true o) ((e::r).filter fun x=>kbit x.1 n) I).2 l (lay f (n+1) (at' && isBr o) (kid n true o) ((e::r).filter fun x=>kbit x.1 n) I).1,(lay f (n+1) (at' && isBr o) (kid n true o) ((e::r).filter fun x=>kbit x.1 n) I).2+1)=(t,next'):=h;rw[O]at h;cases h;have a:=L (fun p B=>A p (kid_pgs B)) H E M;have b:=L (fun p B=>A p (kid_pgs B)) x8 E O
     conv=>rhs;unfold news
     dsimp only;rw[if_pos x8,lAp,lAp]
     show J+1=_+(_+_+1)
     omega
theorem img_fit {wd:Int}{first:Nat}(W:first<=2 ^ 30):∀ (ms:List (List En)) {ats:List Nat} {old:PT} {next:Nat}, old.Wf 0->(∀ p ∈ old.pgs, p<next)->2<=next->(∀ p ∈ ats, p<4096)->ats.length<=next->(∀ m ∈ ms, MapOk m/\m.length<=4096) ->
  next+(imgP wd first ats old next ms).length<=4096->∀ g ∈ imgP wd first ats old next ms,g.fit
 | [],_,_,_,_,_,_,_,_,_,_=>fun g A=>by cases A
 | m::ms,ats,old,next,O,I,Y,B,Z,J,E=>fun g A=>by
  rw[imgP]at A E
  cases N:lay 256 0 true old m next with
  | mk t p =>
  rw[N]at A E;obtain⟨R,a0⟩:=J m sm;obtain⟨T,L,a3⟩:=lay_ok (f:=256) (n:=0) rfl x8 O R.1 Y N;obtain⟨_,hpg,_⟩:=lay_pgs N;have hp:=lay_len (dgT wd) (fresh:=next) I (xC _) x8 N;dsimp only at A E;rw[lAp,zE,zC]at E
  have H:∀ q ∈ t.pgs,q<p+1:=fun q M=>by
   rcases hpg q M with h | h
   ·have:=I q h;omega
   ·omega
  have U:t.page<4096:=by
   cases t with
   | nil=>show 0<4096;omega
   | leaf q k v=>have:=H q (by simp[PT.pgs]);show q<4096;omega
   | br q a b=>have:=H q (by simp[PT.pgs]);show q<4096;omega
  rcases List.mem_append.1 A with A | A
  ·obtain⟨n,hn,rfl⟩:=List.mem_map.1 A
   exact news_fit wd next t 0 (fun q M=>by have:=H q M;omega) (by rw[L];omega) (fun e V=>by rw[L]at V;exact⟨R.1.2 e V,R.2 e V⟩) n hn
  ·rcases List.mem_cons.1 A with rfl | A
   ·have c1:=chAt_lt (a:=ats) (i:=ats.length) (b:=4096) x8 B
    have c2:=chAt_lt (a:=ats) (i:=far (ats.length+1)) (b:=4096) x8 B;refine⟨⟨?_,?_,?_,?_,?_,?_⟩,qJd wd 256 t⟩
    ·show (if 0<first then first+(ats.length+1) - 1 else ats.length+1)<2 ^ 32
     split <;> omega
    ·show first<2 ^ 32;omega
    ·show chAt ats ats.length<2 ^ 32;omega
    ·show chAt ats (far (ats.length+1))<2 ^ 32;omega
    ·show t.page<2 ^ 32;omega
    ·show m.length<2 ^ 32;omega
   ·exact img_fit W ms T H x8 (fun q M=>by
     rcases List.mem_append.1 M with h | h
     ·exact B q h
     ·rw[List.mem_singleton.1 h];omega) (by rw[lAp];show ats.length+1<=_;omega) (fun m hm=>J m (zD _ hm)) x8 g A
end Aud
namespace Aud
structure Sb where
 bits:Nat
 page:Nat
 key:Bs
 sum:Bs
def headK:List En->Bs
 | []=>[]
 | e::_=>e.1
def subsL (wd:Int):Nat->PT->List Sb
 | _,.nil=>[]
 | n,.leaf p k v=>[⟨n,p,k,dgT wd (256 - n) (.leaf p k v)⟩]
 | n,.br p l r=>subsL wd (n+1) l++subsL wd (n+1) r++[⟨n,p,headK (l.ents++r.ents),dgT wd (256 - n) (.br p l r)⟩]
theorem qVg {wd:Int}:∀ {t:PT} {n:Nat} {x:Sb},t.Wf n->x ∈ subsL wd n t->n<=x.bits/\∃ e ∈ t.ents,e.1=x.key
 | .nil,n,x,_,h=>by cases h
 | .leaf p k v,n,x,_,h=>by
  rw[List.mem_singleton.1 h];exact⟨xC _,(k,v),by simp[PT.ents],rfl⟩
 | .br p l r,n,x,E,h=>by
  obtain⟨_,_,J,_,_,H,I⟩:=E
  rcases List.mem_append.1 h with h | h
  ·rcases List.mem_append.1 h with h | h
   ·obtain⟨a,e,A,B⟩:=qVg H h
    exact⟨x8,e,zH _ A,B⟩
   ·obtain⟨a,e,A,B⟩:=qVg I h
    exact⟨x8,e,zF _ A,B⟩
  ·rw[List.mem_singleton.1 h]
   refine⟨xC _,?_⟩;show ∃ e ∈ l.ents++r.ents,e.1=headK (l.ents++r.ents)
   cases A:l.ents++r.ents with
   | nil =>
    have:=congrArg List.length A;rw[lAp,List.length_nil]at this;omega
   | cons e L=>exact⟨e,sm,rfl⟩
theorem subs_len {wd:Int}:∀ {t:PT} {n:Nat},(subsL wd n t).length=t.pgs.length
 | .nil,_=>rfl
 | .leaf _ _ _,_=>rfl
 | .br p l r,n=>by
  show (subsL wd (n+1) l++subsL wd (n+1) r++[_]).length=(p::(l.pgs++r.pgs)).length;have:=subs_len (wd:=wd) (t:=l) (n:=n+1);have:=subs_len (wd:=wd) (t:=r) (n:=n+1);simp only[lAp,zC,List.length_nil];omega
theorem subs_bits {wd:Int}:∀ {t:PT} {n:Nat},t.Wf n->n<=256->∀ x ∈ subsL wd n t,x.bits<=256
 | .nil,_,_,_,x,h=>by cases h
 | .leaf p k v,n,_,A,x,h=>by rw[List.mem_singleton.1 h];exact A
 | .br p l r,n,B,A,x,h=>by
  obtain⟨_,E,_,_,_,H,I⟩:=B
  rcases List.mem_append.1 h with h | h
  ·rcases List.mem_append.1 h with h | h
   ·exact subs_bits H x8 x h
   ·exact subs_bits I x8 x h
  ·rw[List.mem_singleton.1 h];exact A
def sbU (n:Nat)(k:Bs)(x:Sb):Bool:=decide (n<=x.bits/\n<=common x.key k)
structure PosS (wd:Int) (T:PT) (n:Nat) (k:Bs) (at':Bool) (o:PT):Prop where
 subs:(subsL wd 0 T).filter (sbU n k)=if at'=true then subsL wd n o else []
 lvs:∀ v,pageOf k v T=pageOf k v o
 ents:∀ e ∈ o.ents,n<=common e.1 k
theorem PosS.root (wd:Int)(T:PT)(k:Bs):PosS wd T 0 k true T :=
 ⟨by rw[if_pos rfl];exact List.filter_eq_self.2 fun x _=>decide_eq_true ⟨jJ _,jJ _⟩,fun _=>rfl,fun _ _=>jJ _⟩
theorem qKp {k v:Bs}{p:Nat}:∀ {o:PT},pageOf k v o=some p->(k,v) ∈ o.ents
 | .nil,h=>by cases h
 | .leaf q B E,h=>by
  unfold pageOf at h;split at h
  ·rename_i e;rw[<- e.1,<- e.2];simp[PT.ents]
  ·cases h
 | .br q l r,h=>by
  unfold pageOf at h
  cases A:pageOf k v l with
  | some x=>exact zH _ (qKp A)
  | none =>
   rw[A]at h;exact zF _ (qKp (o:=r) h)
theorem pageOf_kid {o:PT}(H:o.Wf n):pageOf k v (kid n (kbit k n) o)=pageOf k v o:=by
 cases o with
 | nil=>rfl
 | leaf p A I =>
  show pageOf k v (if kbit A n=kbit k n then PT.leaf p A I else PT.nil)=_
  by_cases h:kbit A n=kbit k n
  ·rw[if_pos h]
  ·rw[if_neg h]
   unfold pageOf;rw[if_neg fun e=>h (by rw[e.1])]
 | br p l r =>
  obtain⟨_,_,_,J,L,_⟩:=H;show pageOf k v (if kbit k n=true then r else l)=(pageOf k v l).orElse fun _=>pageOf k v r
  cases E:kbit k n with
  | true =>
   rw[if_pos rfl]
   cases B:pageOf k v l with
   | some q=>have:=J _ (qKp B);rw[E]at this;cases this
   | none=>rfl
  | false =>
   rw[if_neg j0]
   cases B:pageOf k v r with
   | some q=>have:=L _ (qKp B);rw[E]at this;cases this
   | none=>cases pageOf k v l <;> rfl
theorem kid_mem {b:Bool}{o:PT}(B:o.Wf n){e:En}(h:e ∈ (kid n b o).ents):e ∈ o.ents/\kbit e.1 n=b:=by
 cases o with
 | nil=>cases h
 | leaf p k v =>
  have h:e ∈ (if kbit k n=b then PT.leaf p k v else PT.nil).ents:=h
  by_cases A:kbit k n=b
  ·rw[if_pos A]at h
   rw[List.mem_singleton.1 h];exact⟨by simp[PT.ents],A⟩
  ·rw[if_neg A]at h;cases h
 | br p l r =>
  obtain⟨_,_,_,E,H,_⟩:=B
  cases b with
  | true=>exact⟨zF _ h,H e h⟩
  | false=>exact⟨zH _ h,E e h⟩
theorem qJw {a b:Bs}(H:n<256):n+1<=common a b ↔ n<=common a b/\kbit a n=kbit b n:=by
 rw[qZx x8,qZx x8];constructor
 ·intro h;exact⟨fun j A=>h j x8,h n x8⟩
 ·rintro⟨B,E⟩ j A
  by_cases e:j=n
  ·rw[e];exact E
  ·exact B j x8
theorem PosS.kid {T:PT}{o:PT}(h:PosS wd T n k at' o)(J:o.Wf n)(L:n<256):PosS wd T (n+1) k (at' && isBr o) (Aud.kid n (kbit k n) o):=by
 refine⟨?_,fun v=>(h.lvs v).trans (pageOf_kid J).symm,fun e A=>?_⟩
 ·have V:(subsL wd 0 T).filter (sbU (n+1) k)=((subsL wd 0 T).filter (sbU n k)).filter (sbU (n+1) k):=by
   rw[List.filter_filter];refine List.filter_congr fun x _=>?_;unfold sbU
   by_cases B:n+1<=x.bits/\n+1<=common x.key k
   ·rw[decide_eq_true B,decide_eq_true (show n<=x.bits/\n<=common x.key k by omega)];rfl
   ·rw[decide_eq_false B];rfl
  rw[V,h.subs]
  cases at' with
  | false=>rfl
  | true =>
   rw[if_pos rfl,Bool.true_and]
   cases o with
   | nil=>rfl
   | leaf p k' v' =>
    show List.filter (sbU (n+1) k) [_]=[]
    rw[jB (by unfold sbU;rw[decide_eq_true_eq];intro B;have:n+1<=n:=B.1;omega)]
    rfl
   | br p l r =>
    obtain⟨_,_,_,W,Y,M,N⟩:=J
    have R:∀ (t:PT) (b:Bool),t.Wf (n+1)->(∀ e ∈ t.ents,n<=common e.1 k/\kbit e.1 n=b)->(subsL wd (n+1) t).filter (sbU (n+1) k)=if kbit k n=b then subsL wd (n+1) t else []:=fun t b U O=>by
     by_cases I:kbit k n=b
     ·rw[if_pos I]
      refine List.filter_eq_self.2 fun x B=>?_;obtain⟨a,e,A,E⟩:=qVg U B;refine decide_eq_true ⟨a,?_⟩;rw[<- E,qJw L];exact⟨(O e A).1,(O e A).2.trans I.symm⟩
     ·rw[if_neg I]
      refine List.filter_eq_nil_iff.2 fun x B=>?_;obtain⟨a,e,A,E⟩:=qVg U B;unfold sbU;rw[decide_eq_true_eq];rintro⟨_,H⟩;rw[<- E,qJw L,(O e A).2]at H;exact I H.2.symm
    have Z:=R l false M fun e A=>⟨h.ents e (zH _ A),W e A⟩
    have fr:=R r true N fun e A=>⟨h.ents e (zF _ A),Y e A⟩
    show List.filter (sbU (n+1) k) (subsL wd (n+1) l++subsL wd (n+1) r++[_])=if true=true then subsL wd (n+1) (if kbit k n=true then r else l) else [];rw[jZ,jZ,Z,fr,jB (by unfold sbU;rw[decide_eq_true_eq];intro B;have:n+1<=n:=B.1;omega),if_pos rfl]
    cases kbit k n <;> simp
 ·obtain⟨h1,h2⟩:=kid_mem J A
  rw[qJw L];exact⟨h.ents e h1,h2⟩
def foundL (wd:Int)(L:List Sb)(k:Bs)(n:Nat):Nat × Bs:=match L.find? (fun x=>decide (x.bits=n/\n<=common x.key k)) with
 | some x=>(x.page,x.sum)
 | none=>(0,emptD wd (256 - n))
theorem PosS.found {T:PT}{o:PT}(h:PosS wd T n k at' o)(N:o.Wf n):foundL wd (subsL wd 0 T) k n=if at'=true then (o.page,dgT wd (256 - n) o) else (0,emptD wd (256 - n)):=by
 have O:(subsL wd 0 T).find? (fun x=>decide (x.bits=n/\n<=common x.key k))=((subsL wd 0 T).filter (sbU n k)).find? (fun x=>decide (x.bits=n/\n<=common x.key k)):=by
  rw[List.find?_filter]
  congr 1
  funext x
  unfold sbU
  by_cases A:x.bits=n/\n<=common x.key k
  ·rw[decide_eq_true A]
   simp[A.1,A.2]
  ·rw[decide_eq_false A];simp
 unfold foundL;rw[O,h.subs]
 cases at' with
 | false=>rfl
 | true =>
  rw[if_pos rfl,if_pos rfl]
  cases o with
  | nil=>rfl
  | leaf p B H =>
   have:=h.ents (B,H) (by simp[PT.ents]);show (match jH _ [Sb.mk n p B _] with | some x=>(x.page,x.sum) | none=>_)=_;have I:jH (fun x:Sb=>decide (x.bits=n/\n<=common x.key k)) [⟨n,p,B,dgT wd (256 - n) (.leaf p B H)⟩]=some ⟨n,p,B,dgT wd (256 - n) (.leaf p B H)⟩:=by simp[this]
   rw[I]
   rfl
  | br p l r =>
   have R:=qVg (wd:=wd) (t:=.br p l r) (n:=n) N (x:=⟨n,p,headK (l.ents++r.ents),dgT wd (256 - n) (.br p l r)⟩) (by unfold subsL;simp);obtain⟨_,e,U,V⟩:=R;have E:=h.ents e U;rw[V]at E;obtain⟨_,_,_,_,_,J,L⟩:=N
   have M:∀ x ∈ subsL wd (n+1) l++subsL wd (n+1) r,¬ (decide (x.bits=n/\n<=common x.key k))=true:=fun x A=>by
    rw[decide_eq_true_eq];rintro⟨W,_⟩
    rcases List.mem_append.1 A with A | A
    ·have:=(qVg J A).1;omega
    ·have:=(qVg L A).1;omega
   show (match jH _ (subsL wd (n+1) l++subsL wd (n+1) r++[Sb.mk n p (headK (l.ents++r.ents)) _]) with | some x=>(x.page,x.sum) | none=>_)=_;have E:n<=common (headK (l.ents++r.ents)) k:=E;have I:jH (fun x:Sb=>decide (x.bits=n/\n<=common x.key k)) [⟨n,p,headK (l.ents++r.ents),dgT wd (256 - n) (.br p l r)⟩]=some ⟨n,p,headK (l.ents++r.ents),dgT wd (256 - n) (.br p l r)⟩:=by simp[E]
   rw[List.find?_append,List.find?_eq_none.2 M,Option.none_or,I]
   rfl
def lfS (k:Bs)(a:Option Sb)(x:Sb):Option Sb:=if (∀ y,a=some y->y.bits<x.bits)/\x.bits<=common x.key k then some x else a
instance (a:Option Sb) (m:Nat):Decidable (∀ y,a=some y->y.bits<m):=match a with
 | none=>isTrue fun _ h=>by cases h
 | some y=>if h:y.bits<m then isTrue fun _ e=>by cases e;exact h else isFalse fun g=>h (g y rfl)
theorem lfS_no {a:Option Sb}{L:List Sb}(h:∀ x ∈ L,¬ x.bits<=common x.key k):L.foldl (lfS k) a=a:=by
 induction L with
 | nil=>rfl
 | cons x L A =>
  rw[List.foldl_cons];have:lfS k a x=a:=by unfold lfS;rw[if_neg fun g=>h x sm g.2]
  rw[this];exact A fun y B=>h y (zD _ B)
theorem leaf_fold {wd:Int}{k v:Bs}{p:Nat}:∀ {t:PT} {n:Nat} {a:Option Sb}, n<=256->t.Wf n->(∀ y, a=some y->y.bits<n)->(∀ e ∈ t.ents, n<=common e.1 k)->pageOf k v t=some p ->
  ∃ d,n<=d/\d<=256/\(subsL wd n t).foldl (lfS k) a=some ⟨d,p,k,dgT wd (256 - d) (.leaf p k v)⟩
 | .nil,n,a,_,_,_,_,h=>by cases h
 | .leaf q T v',n,a,hn,J,R,I,h=>by
  unfold pageOf at h;split at h
  ·rename_i e
   cases h;obtain⟨rfl,rfl⟩:=e;refine⟨n,xC _,hn,?_⟩;show lfS T a ⟨n,p,T,_⟩=_;unfold lfS;rw[if_pos ⟨R,I (T,v') (by simp[PT.ents])⟩]
  ·cases h
 | .br q l r,n,a,hn,J,R,I,h=>by
  have A:=pageOf_kid (k:=k) (v:=v) J;rw[h]at A;obtain⟨_,H,_,hl,hr,L,M⟩:=J
  have N:∀ (t:PT) (b:Bool),t.Wf (n+1)->(∀ e ∈ t.ents,kbit e.1 n=b)->kbit k n≠b->∀ x ∈ subsL wd (n+1) t,¬ x.bits<=common x.key k:=fun t b J ht E x hx hc=>by
   obtain⟨a,e,I,U⟩:=qVg J hx;have:n+1<=common e.1 k:=by rw[U];omega
   rw[qJw H,ht e I]at this;exact E this.2.symm
  have B:∀ (x:Sb),n+1<=x.bits->lfS k (some x) ⟨n,q,headK (l.ents++r.ents),dgT wd (256 - n) (.br q l r)⟩=some x:=fun x hx=>by
   unfold lfS;rw[if_neg fun g=>by have:x.bits<n:=g.1 x rfl;omega]
  show ∃ d,n<=d/\d<=256/\(subsL wd (n+1) l++subsL wd (n+1) r++[Sb.mk n q (headK (l.ents++r.ents)) (dgT wd (256 - n) (.br q l r))]).foldl (lfS k) a=some (Sb.mk d p k (dgT wd (256 - d) (.leaf p k v)));rw[List.foldl_append,List.foldl_append]
  cases E:kbit k n with
  | true =>
   rw[E]at A;obtain⟨d,V,W,Y⟩:=leaf_fold (wd:=wd) (t:=r) (n:=n+1) (a:=a) x8 M (fun y Z=>by have:=R y Z;omega) (fun e O=>(qJw (a:=e.1) (b:=k) H).2 (And.intro (I e (zF _ O)) (by rw[hr e O,E]))) A;refine⟨d,x8,W,?_⟩;rw[lfS_no (N l false L hl (by rw[E];decide)),Y];exact B _ V
  | false =>
   rw[E]at A;obtain⟨d,V,W,Y⟩:=leaf_fold (wd:=wd) (t:=l) (n:=n+1) (a:=a) x8 L (fun y Z=>by have:=R y Z;omega) (fun e O=>(qJw (a:=e.1) (b:=k) H).2 (And.intro (I e (zH _ O)) (by rw[hl e O,E]))) A;refine⟨d,x8,W,?_⟩;rw[Y,lfS_no (N r true M hr (by rw[E];decide))];exact B _ V
theorem pageOf_map {k v:Bs}:∀ {o:PT},(k,v) ∈ o.ents->(pageOf k v o).isSome=true
 | .nil,h=>by cases h
 | .leaf q B E,h=>by
  cases List.mem_singleton.1 h;simp[pageOf]
 | .br q l r,h=>by
  unfold pageOf
  rcases List.mem_append.1 h with h | h
  ·have:=pageOf_map h
   cases A:pageOf k v l with
   | some x=>rfl
   | none=>rw[A]at this;cases this
  ·have:=pageOf_map h
   cases A:pageOf k v l with
   | some x=>rfl
   | none=>exact this
end Aud
namespace Aud
def openP (im:Bs):Except Int Sup :=
 if im.length % 256≠0 then .error 42
 else if im.length / 256<3∨4096<im.length / 256 then .error 40
 else match qZc (pgB im 0) (pgB im 1) with
  | .error e=>.error e
  | .ok s=>if s.pages≠im.length / 256 then .error 4 else .ok s
theorem look_open (im:Bs):lookP im=match openP im with
  | .error e=>.error e
  | .ok s=>.ok (s,qKx im s):=by
 unfold lookP openP;split
 ·rfl
 ·split
  ·rfl
  ·cases qZc (pgB im 0) (pgB im 1) with
   | error e=>rfl
   | ok s =>
    show (if s.pages≠im.length / 256 then Except.error 4 else Except.ok (s,qKx im s))=match (if s.pages≠im.length / 256 then Except.error 4 else Except.ok s:Except Int Sup) with
     | .error e=>.error e
     | .ok s=>.ok (s,qKx im s)
    split <;> rfl
theorem open_ok {s:Sup}(h:openP im=.ok s):s.ok/\im.length=256*s.pages:=by
 unfold openP at h;split at h
 ·cases h
 ·rename_i B
  split at h
  ·cases h
  ·split at h
   ·cases h
   ·rename_i s' A
    split at h
    ·cases h
    ·rename_i E
     cases h;exact⟨chooseP_ok A,x8⟩
def MapIs (pn:Nat->Option Nd)(mark root:Nat)(m:List En):Prop:=∃ A,leavesP pn (2*mark+1) [root] []=some A/\A.length<=4096/\m.Perm A/\Map 0 m
def MadeP (im:Bs)(s:Sup)(first:Nat)(ms:List (List En)):Prop :=
 2+(imgP s.width first [] .nil 2 ms).length=s.mark/\s.head=(if 0<ms.length then s.mark - 1 else 0)/\qZb 2 (imgP s.width first [] .nil 2 ms)=(im.drop 512).take (256*s.mark - 512)
def qXx (im:Bs)(s:Sup)(i:Nat):Rc:=rcAt (pgF im s.mark) (chAt (chF (pgF im s.mark) s.mark) i)
def MadeR (im:Bs):Prop:=∃ s,openP im=.ok s/\qXi im s.mark=[]/\∃ ms,ms.length=(chF (pgF im s.mark) s.mark).length/\(∀ i (h:i<ms.length),MapIs (pnOf (pgF im s.mark)) s.mark (qXx im s (i+1)).root ms[i])/\MadeP im s (qXx im s 1).first ms
theorem map_perm {a b:List En}(E:Map 0 a)(H:Map 0 b)(h:a.Perm b):a=b:=by
 have pa:a.Pairwise fun x y=>klt x.1 y.1:=E.1.imp fun h=>h.1;have I:b.Pairwise fun x y=>klt x.1 y.1:=H.1.imp fun h=>h.1;refine List.Perm.eq_of_pairwise ?_ pa I h;intro x y _ _ A B;have A:klt x.1 y.1:=A;have B:klt y.1 x.1:=B;exact (qZp x.1 (qKw A B)).elim
theorem MapIs.uniq {pn:Nat->Option Nd}{mark root:Nat}{a b:List En}(B:MapIs pn mark root a)(E:MapIs pn mark root b):a=b:=by
 obtain⟨O,H,_,I,J⟩:=B;obtain⟨L,A,_,M,N⟩:=E;rw[H]at A;cases A;exact map_perm J N (I.trans M.symm)
theorem one_of {s:Sup}(I:s.ok)(L:im.length=256*s.pages)(h:qXi im s.mark=[])(J:2<=p)(H:p<s.mark):∃ g,pgF im s.mark p=some g/\g.right/\pgB im p=g.bytes p:=by
 have A:qXw im p=0:=by
  by_cases A:qXw im p=0
  ·exact A
  ·have:(p,qXw im p) ∈ qXi im s.mark:=List.mem_filterMap.2 ⟨p,List.mem_range.2 H,if_neg A⟩
   rw[h]at this;cases this
 obtain⟨_,_,M,N,_⟩:=I;have B:pgF im s.mark p=(match qXb p (pgB im p) with | .ok g=>some g | .error _=>none):=if_pos ⟨J,H⟩;unfold qXw at A;rw[if_neg x8]at A
 cases E:qXb p (pgB im p) with
 | ok g =>
  rw[E]at B;have:=(alone_iff (pgB_len x8) x8).1 E;exact⟨g,B,this.1,this.2⟩
 | error e =>
  rw[E]at A;have A:e=0:=A;exact (clean_of.alone_err E A).elim
theorem trP_cnt {wd:Int}{pg:Nat->Option Pg}{mark:Nat}(h:PgOk pg mark)(A:VsOk wd pg (chF pg mark)):∀ {i:Nat},i<=(chF pg mark).length->(trP wd pg (chF pg mark) i).pgs.length<=chAt (chF pg mark) i
 | 0,_=>jJ _
 | i+1,hi=>by
  have E:=trP_cnt h A (i:=i) x8;obtain⟨_,_,_,c⟩:=A.trees h hi;have B:=lay_cnt (c x8).2.2.2.2.2.2.2.1;rw[jD]at B;omega
theorem made_iff:(∃ s,lookP im=.ok (s,[])) ↔ MadeR im:=by
 constructor
 ·rintro⟨s,h⟩
  have hc:=clean_of h;obtain⟨_,Y⟩:=look_sup h;rw[look_open]at h
  cases M:openP im with
  | error e=>rw[M]at h;cases h
  | ok s' =>
  rw[M]at h;simp only[Except.ok.injEq,Prod.mk.injEq]at h;obtain⟨rfl,a0⟩:=h
  have B:qXi im s'.mark=[]:=by
   unfold qKx at Y;split at Y
   ·rename_i e;exact e
   ·exact Y.symm
  obtain⟨N,hl⟩:=open_ok M;refine⟨s',M,B,?_⟩;have A:=pgOk (im:=im) N;obtain⟨_,a7,O,E⟩:=hc;have h1:=fun {p:Nat} (h2:2<=p) (H:p<s'.mark)=>one_of N hl B h2 H;clear Y a0 B;unfold qXx;generalize hpg:pgF im s'.mark=pg at *;refine⟨(jF 0 (chF pg s'.mark).length).map fun j=>(trP s'.width pg (chF pg s'.mark) (j+1)).ents,sm,fun i hi=>?_,?_⟩
  ·have a9:i<(chF pg s'.mark).length:=by simpa using hi
   obtain⟨a,b,_,c⟩:=O.trees A (i:=i+1) x8;obtain⟨_,_,_,v3,v4,_,v6,_,v8⟩:=c x8;have a8:=trP_cnt A O (i:=i+1) x8;have b0:=A.ch (i:=i+1) x8 x8;have H:=pops_le (trP s'.width pg (chF pg s'.mark) (i+1));have I:=rl_perm (trP s'.width pg (chF pg s'.mark) (i+1));have a3:=(A.rc (chAt (chF pg s'.mark) (i+1))).2.2.1;rw[jG,List.getElem_range',Nat.zero_add,Nat.one_mul];refine⟨(trP s'.width pg (chF pg s'.mark) (i+1)).rl,?_,by rw[I.length_eq,v4];exact a3,I.symm,wf_map (row:=zrow) x8 a fun e U=>⟨jJ _,v6 e U⟩⟩;rw[<- v3,leaves_tree _ a b x8,qWe]
   rfl
  ·obtain⟨g1,g2⟩:=vers_img A O rfl (chF pg s'.mark).length (i:=0) x8
   have e0:max 1 (chAt (chF pg s'.mark) 0)+1=2:=rfl;rw[e0,List.take_zero]at g1 g2;rw[show trP s'.width pg (chF pg s'.mark) 0=.nil from rfl]at g1 g2;generalize hG:imgP s'.width (rcAt pg (chAt (chF pg s'.mark) 1)).first [] PT.nil 2 ((jF 0 (chF pg s'.mark).length).map fun j=>(trP s'.width pg (chF pg s'.mark) (j+1)).ents)=G at *;unfold MadeP;rw[hG]
   have R:2+G.length=s'.mark:=by
    rw[g2]
    rcases E with ⟨a,b,_⟩ | ⟨a,b,_⟩
    ·rw[a,b];rfl
    ·have:=A.ch (i:=(chF pg s'.mark).length) x8 (xC _)
     omega
   refine⟨R,?_,?_⟩
   ·rw[zE,List.length_range']
    rcases E with ⟨a,b,c⟩ | ⟨a,b,c⟩
    ·rw[if_neg x8,c]
    ·rw[if_pos a];omega
   ·obtain⟨_,_,h3,h4,_⟩:=N
    have hg:∀ i (h:i<G.length),G[i].right/\pgB im (2+i)=G[i].bytes (2+i):=fun i hi=>by
     obtain⟨g,Z,e2,e3⟩:=h1 (p:=2+i) x8 x8;rw[g1 i hi]at Z;cases Z;exact⟨e2,e3⟩
    have:=(bytesP_iff (im:=im) G (p:=2) (fun g a4=>by
     obtain⟨i,hi,rfl⟩:=List.mem_iff_getElem.1 a4
     exact right_fit (hg i hi).1) x8).2 fun i hi=>(hg i hi).2.symm
    rw[this]
    congr 1
    omega
 ·rintro⟨s,M,B,ms,V,a5,E,a6,hby⟩
  obtain⟨N,hl⟩:=open_ok M;refine⟨s,?_⟩;rw[look_open,M];show Except.ok (s,qKx im s)=_
  congr 2
  unfold qKx;rw[if_pos B];have A:=pgOk (im:=im) N;have h1:=fun {p:Nat} (h2:2<=p) (H:p<s.mark)=>one_of N hl B h2 H;obtain⟨_,_,h3,h4,_⟩:=N
  have J:∀ m ∈ ms,MapOk m/\m.length<=4096:=fun m hm=>by
   obtain⟨i,hi,rfl⟩:=List.mem_iff_getElem.1 hm;obtain⟨cs,c1,c2,c3,c4⟩:=a5 i hi;refine⟨⟨c4,fun e U=>?_⟩,by rw[c3.length_eq];exact c2⟩
   rcases leaves_mem c1 e (c3.mem_iff.1 U) with h | ⟨p,H⟩
   ·cases h
   ·exact (A.hnd p _ (qKu H)).2.2
  unfold qXx at E hby
  generalize pgF im s.mark=pg at *;have L:=img_fit (wd:=s.width) (A.rc (chAt (chF pg s.mark) 1)).1 ms (ats:=[]) (old:=.nil) (next:=2) trivial (fun p H=>by cases H) x8 (fun p H=>by cases H) (jJ _) J x8
  have T:=img_vers (wd:=s.width) (first:=(rcAt pg (chAt (chF pg s.mark) 1)).first) A ms (ats:=[]) (old:=.nil) (next:=2) (by
   have e:∀ p,p<2->pg p=none:=fun p H=>by
    cases h:pg p with
    | none=>rfl
    | some g =>
     cases g with
     | nd n=>have:=(A.hnd p n h).1;omega
     | rc r=>have:=(A.hrc p r h).1;omega
   rw[chF_succ,chF_succ,e 0 x8,e 1 x8];rfl) trivial trivial (by show 0<2;omega) ⟨List.Pairwise.nil,fun e U=>by cases U⟩ rfl (fun m hm=>(J m hm).1.1) rfl
  generalize hG:imgP s.width (rcAt pg (chAt (chF pg s.mark) 1)).first [] PT.nil 2 ms=G at *;have hb:=(bytesP_iff (im:=im) G (p:=2) L x8).1 (by rw[hby];congr 1;omega)
  have W:PAt pg 2 G:=fun i hi=>by
   obtain⟨g,Z,e2,e3⟩:=h1 (p:=2+i) x8 x8;rw[Z]
   congr 1
   exact bytes_inj (p:=2+i) x8 (right_fit e2) (L _ (List.getElem_mem hi)) (by rw[<- e3,hb i hi])
  obtain⟨v1,v2,v3⟩:=T W E
  have hw:qVe s.width pg (chF pg s.mark) s.mark s.head=.ok ():=by
   unfold qVe;rw[<- V];have v1:versP s.width pg (chF pg s.mark) ms.length 1 .nil=.ok ():=v1;rw[v1];show (if max 1 (chAt (chF pg s.mark) ms.length)+1<s.mark then .error _ else if 0<ms.length/\s.head≠max 1 (chAt (chF pg s.mark) ms.length) then .error _ else .ok ():Except (Nat × Int) Unit)=_;rw[<- V]at v3;rw[if_neg x8,if_neg (fun h=>h.2 (by rw[a6,if_pos h.1];omega))]
  rw[hw]
end Aud
namespace Aud
def kz:Bs:=List.replicate 32 0
def smT:PT:=.leaf 2 kz [7]
def smR (D:Bs):Rc:=⟨1,0,0,0,2,1,D⟩
def smS:Sup:=⟨3,2,4,5,3⟩
def smW:Sup:=⟨3,1,2,5,0⟩
def smI (D:Bs):Bs:=supB smS++(supB smW++(pagB 1 2 (kz++[7])++(pagB 3 3 (lodR (smR D))++List.replicate 256 0)))
theorem smI_len (A:D.length=32):(smI D).length=1280:=by
 have B:(pagB 1 2 (kz++[7])).length=256:=qJa j0;have E:(pagB 3 3 (lodR (smR D))).length=256:=qJa (by rw[lodR_len (show (smR D).sum.length=32 from A)];decide);unfold smI;simp only[lAp,supB_len,B,E,lRe]
theorem smI_pg (H:D.length=32):pgB (smI D) 0=supB smS/\pgB (smI D) 1=supB smW/\pgB (smI D) 2=pagB 1 2 (kz++[7])/\pgB (smI D) 3=pagB 3 3 (lodR (smR D)):=by
 have E:(pagB 1 2 (kz++[7])).length=256:=qJa j0;have I:(pagB 3 3 (lodR (smR D))).length=256:=qJa (by rw[lodR_len (show (smR D).sum.length=32 from H)];decide);unfold smI;generalize J:pagB 1 2 (kz++[7])=A at *;generalize L:pagB 3 3 (lodR (smR D))=B at *;have a:=supB_len smS;have b:=supB_len smW;generalize supB smS=X at *;generalize supB smW=Y at *;refine⟨?_,?_,?_,?_⟩
 ·exact sub_at (a:=[]) rfl a
 ·exact sub_at a b
 ·unfold pgB
  rw[<- zU];exact sub_at (by rw[lAp,a,b]) E
 ·unfold pgB
  rw[<- zU,<- zU];exact sub_at (by rw[lAp,lAp,a,b,E]) I
theorem smR_right (A:D.length=32):(smR D).right/\(smR D).sum.length=32:=by
 refine⟨⟨by show 0<=2 ^ 30;decide,by show max 1 0<=1;decide,by show 1<=2 ^ 30;decide,.inr ⟨by show (2:Nat)≠0;decide,by show 0<1;decide,by show 1<=4096;decide⟩,fun _=>⟨by show 2<=2;decide,by show 2<4096;decide⟩,?_⟩,A⟩;show (if (smR D).num=1 then _ else _);rw[if_pos (by rfl)];exact⟨rfl,rfl⟩
theorem small_alone (A:D.length=32):qXb 2 (pgB (smI D) 2)=.ok (.nd (.leaf kz [7]))/\qXb 3 (pgB (smI D) 3)=.ok (.rc (smR D)):=by
 obtain⟨_,_,B,E⟩:=smI_pg A;have H:(pgB (smI D) 2).length=256:=pgB_len (by rw[smI_len A];decide);have I:(pgB (smI D) 3).length=256:=pgB_len (by rw[smI_len A];decide);refine⟨(alone_iff H j0).2 ⟨?_,B⟩,(alone_iff I j0).2 ⟨smR_right A,E⟩⟩;show kz.length=32/\_;exact⟨j0,j0⟩
theorem small_pg (A:D.length=32):pgF (smI D) 4 0=none/\pgF (smI D) 4 1=none/\pgF (smI D) 4 2=some (.nd (.leaf kz [7]))/\pgF (smI D) 4 3=some (.rc (smR D)):=by
 obtain⟨a2,B⟩:=small_alone A;refine⟨pgF_none j0,pgF_none j0,?_,?_⟩
 ·unfold pgF;rw[if_pos j0,a2]
 ·unfold pgF;rw[if_pos j0,B]
theorem small_ch (A:D.length=32):chF (pgF (smI D) 4) 4=[3]:=by
 obtain⟨B,E,H,I⟩:=small_pg A;unfold chF;rw[show List.range 4=[0,1,2,3] from rfl];simp only[List.filter_cons,B,E,H,I,Bool.false_eq_true,if_false,if_true,List.filter_nil]
theorem small_whole (E:D.length=32)(H:dgT 3 256 smT=D):qVe 3 (pgF (smI D) 4) [3] 4 3=.ok ():=by
 obtain⟨N,O,I,J⟩:=small_pg E;generalize pgF (smI D) 4=pg at *;have B:rcAt pg 3=smR D:=by unfold rcAt;rw[J]
 have L:pnOf pg 2=some (.leaf kz [7]):=by unfold pnOf;rw[I]
 have M:verP 3 pg [3] 1 .nil=.ok smT:=by
  unfold verP;rw[if_pos (by unfold chainR;rw[show chAt [3] 1=3 from rfl,B];exact⟨rfl,rfl,rfl,rfl⟩),show chAt [3] 1=3 from rfl,B];refine root1_conv (show PT.Wf 0 .nil from trivial) (show Stands _ _ 0 .nil from trivial) (fun e A=>by cases A) j0 ⟨?_,L,rfl,rfl,H,fun e A=>?_,?_,j0⟩
  ·show 2<=2;exact xC _
  ·rw[List.mem_singleton.1 A];rfl
  ·exact lay_one 256 0 true (show PT.Wf 0 .nil from trivial) kz [7] 2
 unfold qVe;rw[show ([3]:List Nat).length=0+1 from rfl];unfold versP;rw[M]
 rfl
theorem small_look (A:D.length=32)(H:dgT 3 256 smT=D):lookP (smI D)=.ok (smS,[]):=by
 obtain⟨B,E,Y,Z⟩:=smI_pg A;obtain⟨a2,I⟩:=small_alone A;obtain⟨J,L⟩:=supP_supB (s:=smS) j0;obtain⟨M,N⟩:=supP_supB (s:=smW) j0;unfold lookP;rw[smI_len A,if_neg j0,if_neg j0,B,E]
 have O:qZc (supB smS) (supB smW)=.ok smS:=by
  unfold qZc;rw[J,M]
  rfl
 rw[O];show (if smS.pages≠1280 / 256 then _ else _)=_;rw[if_neg j0]
 have R:qXi (smI D) 4=[]:=by
  have T:qXw (smI D) 0=0:=by unfold qXw;rw[if_pos j0,B,L];rfl
  have U:qXw (smI D) 1=0:=by unfold qXw;rw[if_pos j0,E,N];rfl
  have V:qXw (smI D) 2=0:=by unfold qXw;rw[if_neg j0,a2]
  have W:qXw (smI D) 3=0:=by unfold qXw;rw[if_neg j0,I]
  rw[qZl,qZl,qZl,qZl,T,U,V,W]
  rfl
 have:qKx (smI D) smS=[]:=by
  unfold qKx;rw[show smS.mark=4 from rfl,R,if_pos rfl,small_ch A,show (smS.width:Int)=3 from rfl,show smS.head=3 from rfl,small_whole A H]
 rw[this]
end Aud
end Go.V
