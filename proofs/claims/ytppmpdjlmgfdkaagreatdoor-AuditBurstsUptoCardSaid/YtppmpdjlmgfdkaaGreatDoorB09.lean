/- Helpers. -/
import Derived.Test.YtppmpdjlmgfdkaaGreatDoorB08
set_option linter.all false
set_option maxRecDepth 100000
set_option maxHeartbeats 8000000
open BitVec renaming getLsbD_ushiftRight->jF,eq_of_getLsbD_eq->xS,getLsbD_xor->xG,getLsbD_setWidth->jH,getLsbD_of_ge->jB,getLsbD_one->jD,getLsbD_not->jM
open Bool renaming bne_false->jN,true_and->jP,false_and->jR
open List renaming length_cons->zU,getElem?_eq_getElem->xE,mem_append_right->zV,mem_cons_of_mem->zY,mem_append_left->zW,mem_cons_self->zD,length_map->zB,replicate->zK,getElem_mem->jT,take_append_of_le_length->zF,drop_append_of_le_length->zM,drop_left'->zP,find?->jL,getElem?_replicate->jC,filter_cons_of_neg->jS,getElem?_take->xO,filter_append->zS
open Nat renaming le_refl->xC,zero_le->jK
namespace Go.V
variable {at':Bool} {im im' k raw v x y:Bs} {wd:Int} {a ats:List Nat} {b c i m n p q:Nat}
namespace Aud
theorem kid_cnt (n:Nat)(o:PT):(kid n false o).pgs.length+(kid n true o).pgs.length<=o.pgs.length:=by
 cases o with
 | nil=>exact xC _
 | leaf p k v =>
  show (if kbit k n=false then PT.leaf p k v else PT.nil).pgs.length+(if kbit k n=true then PT.leaf p k v else PT.nil).pgs.length<=1
  cases kbit k n <;> simp[PT.pgs]
 | br p l r =>
  show l.pgs.length+r.pgs.length<=(p::(l.pgs++r.pgs)).length;rw[zU,lAp];omega
theorem pageOf_cnt {o:PT}(h:pageOf k v o=some p):1<=o.pgs.length:=List.length_pos_of_mem (qKk h)
theorem lay_cnt:∀ {f n:Nat} {at':Bool} {o:PT} {m:List En} {next:Nat} {t:PT} {next':Nat},lay f n at' o m next=(t,next')->t.pgs.length+next<=o.pgs.length+next':=by
 intro f
 have one:∀ {k v:Bs} {o:PT} {next:Nat} {t:PT} {next':Nat},(match pageOf k v o with | some p=>(PT.leaf p k v,next) | none=>(PT.leaf next k v,next+1))=(t,next')->t.pgs.length+next<=o.pgs.length+next':=fun {k v o next t next'} h=>by
  cases B:pageOf k v o with
  | some q =>
   rw[B]at h;cases h;have:=pageOf_cnt B;show 1+_<=_;omega
  | none =>
   rw[B]at h;cases h;show 1+_<=_;omega
 induction f with
 | zero =>
  intro n at' o m next t next' h
  cases m with
  | nil=>unfold lay at h;cases h;show 0+_<=_;omega
  | cons e r=>unfold lay at h;exact one h
 | succ f I =>
  intro n at' o m next t next' h
  cases m with
  | nil=>unfold lay at h;cases h;show 0+_<=_;omega
  | cons e r =>
   unfold lay at h;split at h
   ·cases h;exact xC _
   ·split at h
    ·exact one h
    ·obtain⟨l,A,J⟩:∃ l A,lay f (n+1) (at' && isBr o) (kid n false o) ((e::r).filter fun x=>!kbit x.1 n) next=(l,A):=⟨_,_,rfl⟩
     obtain⟨E,H,L⟩:∃ E H,lay f (n+1) (at' && isBr o) (kid n true o) ((e::r).filter fun x=>kbit x.1 n) A=(E,H):=⟨_,_,rfl⟩
     rw[J]at h;have h:(PT.br (lay f (n+1) (at' && isBr o) (kid n true o) ((e::r).filter fun x=>kbit x.1 n) A).2 l (lay f (n+1) (at' && isBr o) (kid n true o) ((e::r).filter fun x=>kbit x.1 n) A).1,(lay f (n+1) (at' && isBr o) (kid n true o) ((e::r).filter fun x=>kbit x.1 n) A).2+1)=(t,next'):=h;rw[L]at h;cases h;have a:=I J;have b:=I L;have c:=kid_cnt n o;show (H::(l.pgs++E.pgs)).length+_<=_;rw[zU,lAp];omega
def PT.rl:PT->List En
 | .nil=>[]
 | .leaf _ k v=>[(k,v)]
 | .br _ l r=>r.rl++l.rl
def Nd.fit:Nd->Prop
 | .leaf k v=>k.length=32/\v.length<=128
 | .br A B lc rc E rs=>(A<2 ^ 32/\B<2 ^ 32/\lc<2 ^ 32/\rc<2 ^ 32)/\E.length=32/\rs.length=32
def Rc.fit (r:Rc):Prop:=(r.ver<2 ^ 32/\r.first<2 ^ 32/\r.prev<2 ^ 32/\r.skip<2 ^ 32/\r.root<2 ^ 32/\r.count<2 ^ 32)/\r.sum.length=32
def Pg.fit:Pg->Prop
 | .nd n=>n.fit
 | .rc r=>r.fit
theorem fit_len {g:Pg}(h:g.fit):g.load.length<=246:=by
 cases g with
 | nd n =>
  cases n with
  | leaf k v =>
   obtain⟨A,B⟩:=h;show (k++v).length<=246;rw[lAp];omega
  | br E H lc rc I rs =>
   obtain⟨_,A,B⟩:=h;show (leB 4 E++leB 4 H++leB 4 lc++leB 4 rc++I++rs).length<=246;simp only[lAp,qXc];omega
 | rc r=>show (lodR r).length<=246;rw[lodR_len h.2];decide
theorem chR_fit {s:Bs}(h:chR p c s):p<2 ^ 32/\c<2 ^ 32:=by have:=chR_lt h;omega
theorem right_fit {g:Pg}(h:g.right):g.fit:=by
 cases g with
 | nd n =>
  cases n with
  | leaf k v=>exact h
  | br W Y lc rc Z rs =>
   obtain⟨E,I,J⟩:=h;have a:=chR_fit E.1;have b:=chR_fit E.2.1;exact⟨⟨a.1,b.1,a.2,b.2⟩,I,J⟩
 | rc r =>
  obtain⟨⟨E,I,J,M,N,L⟩,O⟩:=h
  have A:r.root<2 ^ 32:=by
   by_cases R:r.root=0
   ·omega
   ·have:=(N R).2;omega
  have T:r.count<2 ^ 32:=by rcases M with h | h <;> omega
  have B:r.prev<2 ^ 32/\r.skip<2 ^ 32:=by
   split at L
   ·omega
   ·obtain⟨U,H⟩:=L
    have V:=U.2;refine⟨om,?_⟩;unfold skipOk at H;split at H
    ·omega
    ·split at H
     ·omega
     ·omega
  exact⟨⟨om,om,B.1,B.2,A,T⟩,O⟩
def MapOk (m:List En):Prop:=Map 0 m/\∀ e ∈ m,e.2.length<=128
theorem qZv (wd:Int):∀ (h:Nat) (t:PT),(dgT wd h t).length=32
 | h,.nil=>qQv wd h
 | h,.leaf _ k v=>qKt _ _ _ _ _ (qZp _ _ _)
 | h,.br _ l r=>qXm _ _ _
theorem said_len (wd:Int)(h:Nat)(t:PT):(said (dgT wd) h t).length=32:=by
 cases t with
 | nil=>exact lRe
 | leaf p k v=>exact qZv wd h _
 | br p l r=>exact qZv wd h _
theorem chAt_lt (A:0<b)(h:∀ p ∈ a,p<b):chAt a i<b:=by
 unfold chAt;split
 ·exact A
 ·rw[gDq]
  by_cases hi:i - 1<a.length
  ·rw[xE hi];exact h _ (jT hi)
  ·rw[List.getElem?_eq_none om];exact A
theorem lay_len (dg:Nat->PT->Bs){fresh:Nat}:∀ {f n:Nat} {at':Bool} {o:PT} {m:List En} {next:Nat} {t:PT} {next':Nat},(∀ p ∈ o.pgs,p<fresh)->fresh<=next->0<fresh->lay f n at' o m next=(t,next')->next'=next+(news dg fresh n t).length:=by
 intro f
 have old:∀ {o:PT} {n:Nat},(∀ p ∈ o.pgs,p<fresh)->0<fresh->news dg fresh n o=[]:=fun {o n} A E=>news_old (by
  cases o with
  | nil=>exact E
  | leaf q k v=>exact A q (by simp[PT.pgs])
  | br q a b=>exact A q (by simp[PT.pgs]))
 have one:∀ {k v:Bs} {o:PT} {n next:Nat} {t:PT} {next':Nat},(∀ p ∈ o.pgs,p<fresh)->fresh<=next->(match pageOf k v o with | some p=>(PT.leaf p k v,next) | none=>(PT.leaf next k v,next+1))=(t,next')->next'=next+(news dg fresh n t).length:=fun {k v o n next t next'} A H h=>by
  cases B:pageOf k v o with
  | some q =>
   rw[B]at h;cases h;have:=A q (qKk B);unfold news;rw[if_neg om];rfl
  | none =>
   rw[B]at h;cases h;unfold news;rw[if_pos H];rfl
 induction f with
 | zero =>
  intro n at' o m next t next' A H E h
  cases m with
  | nil=>unfold lay at h;cases h;rfl
  | cons e r=>unfold lay at h;exact one A H h
 | succ f L =>
  intro n at' o m next t next' A H E h
  cases m with
  | nil=>unfold lay at h;cases h;rfl
  | cons e r =>
   unfold lay at h;split at h
   ·cases h;rw[old A E];rfl
   ·split at h
    ·exact one A H h
    ·obtain⟨l,I,M⟩:∃ l I,lay f (n+1) (at' && isBr o) (kid n false o) ((e::r).filter fun x=>!kbit x.1 n) next=(l,I):=⟨_,_,rfl⟩
     obtain⟨N,J,O⟩:∃ N J,lay f (n+1) (at' && isBr o) (kid n true o) ((e::r).filter fun x=>kbit x.1 n) I=(N,J):=⟨_,_,rfl⟩
     rw[M]at h;have h:(PT.br (lay f (n+1) (at' && isBr o) (kid n true o) ((e::r).filter fun x=>kbit x.1 n) I).2 l (lay f (n+1) (at' && isBr o) (kid n true o) ((e::r).filter fun x=>kbit x.1 n) I).1,(lay f (n+1) (at' && isBr o) (kid n true o) ((e::r).filter fun x=>kbit x.1 n) I).2+1)=(t,next'):=h;rw[O]at h;cases h;have a:=L (fun p B=>A p (kid_pgs B)) H E M;have b:=L (fun p B=>A p (kid_pgs B)) om E O
     conv=>rhs;unfold news
     dsimp only;rw[if_pos om,lAp,lAp]
     show J+1=_+(_+_+1)
     omega
end Aud
namespace Aud
structure Sb where
 bits:Nat
 page:Nat
 key:Bs
 sum:Bs
def headK:List En->Bs
 | []=>[]
 | e::_=>e.1
def subsL (wd:Int):Nat->PT->List Sb
 | _,.nil=>[]
 | n,.leaf p k v=>[⟨n,p,k,dgT wd (256 - n) (.leaf p k v)⟩]
 | n,.br p l r=>subsL wd (n+1) l++subsL wd (n+1) r++[⟨n,p,headK (l.ents++r.ents),dgT wd (256 - n) (.br p l r)⟩]
theorem qKx {wd:Int}:∀ {t:PT} {n:Nat} {x:Sb},t.Wf n->x ∈ subsL wd n t->n<=x.bits/\∃ e ∈ t.ents,e.1=x.key
 | .nil,n,x,_,h=>by cases h
 | .leaf p k v,n,x,_,h=>by
  rw[List.mem_singleton.1 h];exact⟨xC _,(k,v),by simp[PT.ents],rfl⟩
 | .br p l r,n,x,E,h=>by
  obtain⟨_,_,J,_,_,H,I⟩:=E
  rcases List.mem_append.1 h with h | h
  ·rcases List.mem_append.1 h with h | h
   ·obtain⟨a,e,A,B⟩:=qKx H h
    exact⟨om,e,zW _ A,B⟩
   ·obtain⟨a,e,A,B⟩:=qKx I h
    exact⟨om,e,zV _ A,B⟩
  ·rw[List.mem_singleton.1 h]
   refine⟨xC _,?_⟩;show ∃ e ∈ l.ents++r.ents,e.1=headK (l.ents++r.ents)
   cases A:l.ents++r.ents with
   | nil =>
    have:=congrArg List.length A;rw[lAp,List.length_nil]at this;omega
   | cons e L=>exact⟨e,sm,rfl⟩
theorem subs_len {wd:Int}:∀ {t:PT} {n:Nat},(subsL wd n t).length=t.pgs.length
 | .nil,_=>rfl
 | .leaf _ _ _,_=>rfl
 | .br p l r,n=>by
  show (subsL wd (n+1) l++subsL wd (n+1) r++[_]).length=(p::(l.pgs++r.pgs)).length;have:=subs_len (wd:=wd) (t:=l) (n:=n+1);have:=subs_len (wd:=wd) (t:=r) (n:=n+1);simp only[lAp,zU,List.length_nil];omega
theorem subs_bits {wd:Int}:∀ {t:PT} {n:Nat},t.Wf n->n<=256->∀ x ∈ subsL wd n t,x.bits<=256
 | .nil,_,_,_,x,h=>by cases h
 | .leaf p k v,n,_,A,x,h=>by rw[List.mem_singleton.1 h];exact A
 | .br p l r,n,B,A,x,h=>by
  obtain⟨_,E,_,_,_,H,I⟩:=B
  rcases List.mem_append.1 h with h | h
  ·rcases List.mem_append.1 h with h | h
   ·exact subs_bits H om x h
   ·exact subs_bits I om x h
  ·rw[List.mem_singleton.1 h];exact A
def sbU (n:Nat)(k:Bs)(x:Sb):Bool:=decide (n<=x.bits/\n<=common x.key k)
structure PosS (wd:Int) (T:PT) (n:Nat) (k:Bs) (at':Bool) (o:PT):Prop where
 subs:(subsL wd 0 T).filter (sbU n k)=if at'=true then subsL wd n o else []
 lvs:∀ v,pageOf k v T=pageOf k v o
 ents:∀ e ∈ o.ents,n<=common e.1 k
theorem PosS.root (wd:Int)(T:PT)(k:Bs):PosS wd T 0 k true T :=
 ⟨by rw[if_pos rfl];exact List.filter_eq_self.2 fun x _=>decide_eq_true ⟨jK _,jK _⟩,fun _=>rfl,fun _ _=>jK _⟩
theorem qKl {k v:Bs}{p:Nat}:∀ {o:PT},pageOf k v o=some p->(k,v) ∈ o.ents
 | .nil,h=>by cases h
 | .leaf q B E,h=>by
  unfold pageOf at h;split at h
  ·rename_i e;rw[<- e.1,<- e.2];simp[PT.ents]
  ·cases h
 | .br q l r,h=>by
  unfold pageOf at h
  cases A:pageOf k v l with
  | some x=>exact zW _ (qKl A)
  | none =>
   rw[A]at h;exact zV _ (qKl (o:=r) h)
theorem pageOf_kid {o:PT}(H:o.Wf n):pageOf k v (kid n (kbit k n) o)=pageOf k v o:=by
 cases o with
 | nil=>rfl
 | leaf p A I =>
  show pageOf k v (if kbit A n=kbit k n then PT.leaf p A I else PT.nil)=_
  by_cases h:kbit A n=kbit k n
  ·rw[if_pos h]
  ·rw[if_neg h]
   unfold pageOf;rw[if_neg fun e=>h (by rw[e.1])]
 | br p l r =>
  obtain⟨_,_,_,J,L,_⟩:=H;show pageOf k v (if kbit k n=true then r else l)=(pageOf k v l).orElse fun _=>pageOf k v r
  cases E:kbit k n with
  | true =>
   rw[if_pos rfl]
   cases B:pageOf k v l with
   | some q=>have:=J _ (qKl B);rw[E]at this;cases this
   | none=>rfl
  | false =>
   rw[if_neg x9]
   cases B:pageOf k v r with
   | some q=>have:=L _ (qKl B);rw[E]at this;cases this
   | none=>cases pageOf k v l <;> rfl
theorem kid_mem {b:Bool}{o:PT}(B:o.Wf n){e:En}(h:e ∈ (kid n b o).ents):e ∈ o.ents/\kbit e.1 n=b:=by
 cases o with
 | nil=>cases h
 | leaf p k v =>
  have h:e ∈ (if kbit k n=b then PT.leaf p k v else PT.nil).ents:=h
  by_cases A:kbit k n=b
  ·rw[if_pos A]at h
   rw[List.mem_singleton.1 h];exact⟨by simp[PT.ents],A⟩
  ·rw[if_neg A]at h;cases h
 | br p l r =>
  obtain⟨_,_,_,E,H,_⟩:=B
  cases b with
  | true=>exact⟨zV _ h,H e h⟩
  | false=>exact⟨zW _ h,E e h⟩
theorem qJq {a b:Bs}(H:n<256):n+1<=common a b ↔ n<=common a b/\kbit a n=kbit b n:=by
 rw[qKb om,qKb om];constructor
 ·intro h;exact⟨fun j A=>h j om,h n om⟩
 ·rintro⟨B,E⟩ j A
  by_cases e:j=n
  ·rw[e];exact E
  ·exact B j om
theorem PosS.kid {T:PT}{o:PT}(h:PosS wd T n k at' o)(J:o.Wf n)(L:n<256):PosS wd T (n+1) k (at' && isBr o) (Aud.kid n (kbit k n) o):=by
 refine⟨?_,fun v=>(h.lvs v).trans (pageOf_kid J).symm,fun e A=>?_⟩
 ·have V:(subsL wd 0 T).filter (sbU (n+1) k)=((subsL wd 0 T).filter (sbU n k)).filter (sbU (n+1) k):=by
   rw[List.filter_filter];refine List.filter_congr fun x _=>?_;unfold sbU
   by_cases B:n+1<=x.bits/\n+1<=common x.key k
   ·rw[decide_eq_true B,decide_eq_true (show n<=x.bits/\n<=common x.key k by omega)];rfl
   ·rw[decide_eq_false B];rfl
  rw[V,h.subs]
  cases at' with
  | false=>rfl
  | true =>
   rw[if_pos rfl,jP]
   cases o with
   | nil=>rfl
   | leaf p k' v' =>
    show List.filter (sbU (n+1) k) [_]=[]
    rw[jS (by unfold sbU;rw[decide_eq_true_eq];intro B;have:n+1<=n:=B.1;omega)]
    rfl
   | br p l r =>
    obtain⟨_,_,_,W,Y,M,N⟩:=J
    have R:∀ (t:PT) (b:Bool),t.Wf (n+1)->(∀ e ∈ t.ents,n<=common e.1 k/\kbit e.1 n=b)->(subsL wd (n+1) t).filter (sbU (n+1) k)=if kbit k n=b then subsL wd (n+1) t else []:=fun t b U O=>by
     by_cases I:kbit k n=b
     ·rw[if_pos I]
      refine List.filter_eq_self.2 fun x B=>?_;obtain⟨a,e,A,E⟩:=qKx U B;refine decide_eq_true ⟨a,?_⟩;rw[<- E,qJq L];exact⟨(O e A).1,(O e A).2.trans I.symm⟩
     ·rw[if_neg I]
      refine List.filter_eq_nil_iff.2 fun x B=>?_;obtain⟨a,e,A,E⟩:=qKx U B;unfold sbU;rw[decide_eq_true_eq];rintro⟨_,H⟩;rw[<- E,qJq L,(O e A).2]at H;exact I H.2.symm
    have Z:=R l false M fun e A=>⟨h.ents e (zW _ A),W e A⟩
    have fr:=R r true N fun e A=>⟨h.ents e (zV _ A),Y e A⟩
    show List.filter (sbU (n+1) k) (subsL wd (n+1) l++subsL wd (n+1) r++[_])=if true=true then subsL wd (n+1) (if kbit k n=true then r else l) else [];rw[zS,zS,Z,fr,jS (by unfold sbU;rw[decide_eq_true_eq];intro B;have:n+1<=n:=B.1;omega),if_pos rfl]
    cases kbit k n <;> simp
 ·obtain⟨h1,h2⟩:=kid_mem J A
  rw[qJq L];exact⟨h.ents e h1,h2⟩
def foundL (wd:Int)(L:List Sb)(k:Bs)(n:Nat):Nat × Bs:=match L.find? (fun x=>decide (x.bits=n/\n<=common x.key k)) with
 | some x=>(x.page,x.sum)
 | none=>(0,emptD wd (256 - n))
theorem PosS.found {T:PT}{o:PT}(h:PosS wd T n k at' o)(N:o.Wf n):foundL wd (subsL wd 0 T) k n=if at'=true then (o.page,dgT wd (256 - n) o) else (0,emptD wd (256 - n)):=by
 have O:(subsL wd 0 T).find? (fun x=>decide (x.bits=n/\n<=common x.key k))=((subsL wd 0 T).filter (sbU n k)).find? (fun x=>decide (x.bits=n/\n<=common x.key k)):=by
  rw[List.find?_filter]
  congr 1
  funext x
  unfold sbU
  by_cases A:x.bits=n/\n<=common x.key k
  ·rw[decide_eq_true A]
   simp[A.1,A.2]
  ·rw[decide_eq_false A];simp
 unfold foundL;rw[O,h.subs]
 cases at' with
 | false=>rfl
 | true =>
  rw[if_pos rfl,if_pos rfl]
  cases o with
  | nil=>rfl
  | leaf p B H =>
   have:=h.ents (B,H) (by simp[PT.ents]);show (match jL _ [Sb.mk n p B _] with | some x=>(x.page,x.sum) | none=>_)=_;have I:jL (fun x:Sb=>decide (x.bits=n/\n<=common x.key k)) [⟨n,p,B,dgT wd (256 - n) (.leaf p B H)⟩]=some ⟨n,p,B,dgT wd (256 - n) (.leaf p B H)⟩:=by simp[this]
   rw[I]
   rfl
  | br p l r =>
   have R:=qKx (wd:=wd) (t:=.br p l r) (n:=n) N (x:=⟨n,p,headK (l.ents++r.ents),dgT wd (256 - n) (.br p l r)⟩) (by unfold subsL;simp);obtain⟨_,e,U,V⟩:=R;have E:=h.ents e U;rw[V]at E;obtain⟨_,_,_,_,_,J,L⟩:=N
   have M:∀ x ∈ subsL wd (n+1) l++subsL wd (n+1) r,¬ (decide (x.bits=n/\n<=common x.key k))=true:=fun x A=>by
    rw[decide_eq_true_eq];rintro⟨W,_⟩
    rcases List.mem_append.1 A with A | A
    ·have:=(qKx J A).1;omega
    ·have:=(qKx L A).1;omega
   show (match jL _ (subsL wd (n+1) l++subsL wd (n+1) r++[Sb.mk n p (headK (l.ents++r.ents)) _]) with | some x=>(x.page,x.sum) | none=>_)=_;have E:n<=common (headK (l.ents++r.ents)) k:=E;have I:jL (fun x:Sb=>decide (x.bits=n/\n<=common x.key k)) [⟨n,p,headK (l.ents++r.ents),dgT wd (256 - n) (.br p l r)⟩]=some ⟨n,p,headK (l.ents++r.ents),dgT wd (256 - n) (.br p l r)⟩:=by simp[E]
   rw[List.find?_append,List.find?_eq_none.2 M,Option.none_or,I]
   rfl
def lfS (k:Bs)(a:Option Sb)(x:Sb):Option Sb:=if (∀ y,a=some y->y.bits<x.bits)/\x.bits<=common x.key k then some x else a
instance (a:Option Sb) (m:Nat):Decidable (∀ y,a=some y->y.bits<m):=match a with
 | none=>isTrue fun _ h=>by cases h
 | some y=>if h:y.bits<m then isTrue fun _ e=>by cases e;exact h else isFalse fun g=>h (g y rfl)
theorem lfS_no {a:Option Sb}{L:List Sb}(h:∀ x ∈ L,¬ x.bits<=common x.key k):L.foldl (lfS k) a=a:=by
 induction L with
 | nil=>rfl
 | cons x L A =>
  rw[List.foldl_cons];have:lfS k a x=a:=by unfold lfS;rw[if_neg fun g=>h x sm g.2]
  rw[this];exact A fun y B=>h y (zY _ B)
theorem leaf_fold {wd:Int}{k v:Bs}{p:Nat}:∀ {t:PT} {n:Nat} {a:Option Sb}, n<=256->t.Wf n->(∀ y, a=some y->y.bits<n)->(∀ e ∈ t.ents, n<=common e.1 k)->pageOf k v t=some p ->
  ∃ d,n<=d/\d<=256/\(subsL wd n t).foldl (lfS k) a=some ⟨d,p,k,dgT wd (256 - d) (.leaf p k v)⟩
 | .nil,n,a,_,_,_,_,h=>by cases h
 | .leaf q T v',n,a,hn,J,R,I,h=>by
  unfold pageOf at h;split at h
  ·rename_i e
   cases h;obtain⟨rfl,rfl⟩:=e;refine⟨n,xC _,hn,?_⟩;show lfS T a ⟨n,p,T,_⟩=_;unfold lfS;rw[if_pos ⟨R,I (T,v') (by simp[PT.ents])⟩]
  ·cases h
 | .br q l r,n,a,hn,J,R,I,h=>by
  have A:=pageOf_kid (k:=k) (v:=v) J;rw[h]at A;obtain⟨_,H,_,hl,hr,L,M⟩:=J
  have N:∀ (t:PT) (b:Bool),t.Wf (n+1)->(∀ e ∈ t.ents,kbit e.1 n=b)->kbit k n≠b->∀ x ∈ subsL wd (n+1) t,¬ x.bits<=common x.key k:=fun t b J ht E x hx hc=>by
   obtain⟨a,e,I,U⟩:=qKx J hx;have:n+1<=common e.1 k:=by rw[U];omega
   rw[qJq H,ht e I]at this;exact E this.2.symm
  have B:∀ (x:Sb),n+1<=x.bits->lfS k (some x) ⟨n,q,headK (l.ents++r.ents),dgT wd (256 - n) (.br q l r)⟩=some x:=fun x hx=>by
   unfold lfS;rw[if_neg fun g=>by have:x.bits<n:=g.1 x rfl;omega]
  show ∃ d,n<=d/\d<=256/\(subsL wd (n+1) l++subsL wd (n+1) r++[Sb.mk n q (headK (l.ents++r.ents)) (dgT wd (256 - n) (.br q l r))]).foldl (lfS k) a=some (Sb.mk d p k (dgT wd (256 - d) (.leaf p k v)));rw[List.foldl_append,List.foldl_append]
  cases E:kbit k n with
  | true =>
   rw[E]at A;obtain⟨d,V,W,Y⟩:=leaf_fold (wd:=wd) (t:=r) (n:=n+1) (a:=a) om M (fun y Z=>by have:=R y Z;omega) (fun e O=>(qJq (a:=e.1) (b:=k) H).2 (And.intro (I e (zV _ O)) (by rw[hr e O,E]))) A;refine⟨d,om,W,?_⟩;rw[lfS_no (N l false L hl (by rw[E];decide)),Y];exact B _ V
  | false =>
   rw[E]at A;obtain⟨d,V,W,Y⟩:=leaf_fold (wd:=wd) (t:=l) (n:=n+1) (a:=a) om L (fun y Z=>by have:=R y Z;omega) (fun e O=>(qJq (a:=e.1) (b:=k) H).2 (And.intro (I e (zW _ O)) (by rw[hl e O,E]))) A;refine⟨d,om,W,?_⟩;rw[Y,lfS_no (N r true M hr (by rw[E];decide))];exact B _ V
theorem pageOf_map {k v:Bs}:∀ {o:PT},(k,v) ∈ o.ents->(pageOf k v o).isSome=true
 | .nil,h=>by cases h
 | .leaf q B E,h=>by
  cases List.mem_singleton.1 h;simp[pageOf]
 | .br q l r,h=>by
  unfold pageOf
  rcases List.mem_append.1 h with h | h
  ·have:=pageOf_map h
   cases A:pageOf k v l with
   | some x=>rfl
   | none=>rw[A]at this;cases this
  ·have:=pageOf_map h
   cases A:pageOf k v l with
   | some x=>rfl
   | none=>exact this
end Aud
namespace Aud
def openP (im:Bs):Except Int Sup :=
 if im.length % 256≠0 then .error 42
 else if im.length / 256<3∨4096<im.length / 256 then .error 40
 else match qXq (pgB im 0) (pgB im 1) with
  | .error e=>.error e
  | .ok s=>if s.pages≠im.length / 256 then .error 4 else .ok s
theorem qVp (im:Bs):lookP im=match openP im with
  | .error e=>.error e
  | .ok s=>.ok (s,qJi im s):=by
 unfold lookP openP;split
 ·rfl
 ·split
  ·rfl
  ·cases qXq (pgB im 0) (pgB im 1) with
   | error e=>rfl
   | ok s =>
    show (if s.pages≠im.length / 256 then Except.error 4 else Except.ok (s,qJi im s))=match (if s.pages≠im.length / 256 then Except.error 4 else Except.ok s:Except Int Sup) with
     | .error e=>.error e
     | .ok s=>.ok (s,qJi im s)
    split <;> rfl
theorem open_ok {s:Sup}(h:openP im=.ok s):s.ok/\im.length=256*s.pages:=by
 unfold openP at h;split at h
 ·cases h
 ·rename_i B
  split at h
  ·cases h
  ·split at h
   ·cases h
   ·rename_i s' A
    split at h
    ·cases h
    ·rename_i E
     cases h;exact⟨chooseP_ok A,om⟩
theorem clean_of.alone_err {p:Nat}{raw:Bs}{e:Int}(h:qZb p raw=.error e)(h0:e=0):False:=by
 subst h0;unfold qZb at h
 split at h
 ·rename_i e' hu
  cases h;unfold unpP at hu
  repeat' split at hu
  all_goals cases hu
 ·repeat' split at h
  all_goals cases h
theorem one_of {s:Sup}(I:s.ok)(L:im.length=256*s.pages)(h:qXx im s.mark=[])(J:2<=p)(H:p<s.mark):∃ g,pgF im s.mark p=some g/\g.right/\pgB im p=g.bytes p:=by
 have A:qXv im p=0:=by
  by_cases A:qXv im p=0
  ·exact A
  ·have:(p,qXv im p) ∈ qXx im s.mark:=List.mem_filterMap.2 ⟨p,List.mem_range.2 H,if_neg A⟩
   rw[h]at this;cases this
 obtain⟨_,_,M,N,_⟩:=I;have B:pgF im s.mark p=(match qZb p (pgB im p) with | .ok g=>some g | .error _=>none):=if_pos ⟨J,H⟩;unfold qXv at A;rw[if_neg om]at A
 cases E:qZb p (pgB im p) with
 | ok g =>
  rw[E]at B;have:=(alone_iff (pgB_len om) om).1 E;exact⟨g,B,this.1,this.2⟩
 | error e =>
  rw[E]at A;have A:e=0:=A;exact (clean_of.alone_err E A).elim
end Aud
namespace Aud
theorem ents_pgs:∀ t:PT,t.ents.length<=t.pgs.length
 | .nil=>xC _
 | .leaf _ _ _=>xC _
 | .br p l r=>by
  have:=ents_pgs l;have:=ents_pgs r;show (l.ents++r.ents).length<=(p::(l.pgs++r.pgs)).length;rw[lAp,zU,lAp];omega
theorem page_pg {t:PT}(h:t≠.nil):t.page ∈ t.pgs:=by
 cases t with
 | nil=>exact absurd rfl h
 | leaf p k v=>exact zD
 | br p l r=>exact zD
theorem chR_of {h n:Nat}{t:PT}(B:t.Wf n)(E:∀ p ∈ t.pgs,p<4096)(H:t.ents.length<=4096):chR t.page t.ents.length (said (dgT wd) h t):=by
 unfold chR
 by_cases A:t=.nil
 ·subst A;rw[if_pos (show PT.nil.page=0 from rfl)];exact⟨rfl,rfl⟩
 ·have I:=t.page_pos B A
  rw[if_neg om];exact⟨I,E _ (page_pg A),List.length_pos_iff.2 fun e=>A (ents_nil B e),H⟩
theorem news_right {wd:Int}{pg:Nat->Option Nd}(fresh:Nat):∀ (t:PT) {n:Nat},t.Wf n->Stands (dgT wd) pg n t->(∀ p ∈ t.pgs,p<4096)->t.ents.length<=4096->(∀ e ∈ t.ents,e.1.length=32/\e.2.length<=128)->∀ g ∈ news (dgT wd) fresh n t,g.right
 | .nil,n,_,_,_,_,_=>fun g A=>by cases A
 | .leaf p k v,n,_,_,_,_,H=>fun g A=>by
  unfold news at A;split at A
  ·rw[List.mem_singleton.1 A];exact H (k,v) (by simp[PT.ents])
  ·cases A
 | .br p l r,n,V,W,R,I,H=>fun g A=>by
  have I:(l.ents++r.ents).length<=4096:=I;rw[lAp]at I;have B:∀ q ∈ l.pgs,q<4096:=fun q J=>R q (zY _ (zW _ J));have E:∀ q ∈ r.pgs,q<4096:=fun q J=>R q (zY _ (zV _ J));obtain⟨w1,w2,L,Y,Z,M,N⟩:=V;obtain⟨s1,s2,s3,T,U⟩:=W;unfold news at A;split at A
  ·rcases List.mem_append.1 A with A | A
   ·rcases List.mem_append.1 A with A | A
    ·exact news_right fresh l M T B om (fun e h=>H e (zW _ h)) g A
    ·exact news_right fresh r N U E om (fun e h=>H e (zV _ h)) g A
   ·rw[List.mem_singleton.1 A]
    refine⟨⟨chR_of M B om,chR_of N E om,fun e=>?_,L,I⟩,said_len _ _ _,said_len _ _ _⟩;have:=stands_eq T U M N e;subst this
    cases O:l.ents with
    | nil=>rw[O]at L;exact absurd L x9
    | cons x xs =>
     have a:=Y x (by rw[O];exact zD);have b:=Z x (by rw[O];exact zD);rw[a]at b;cases b
  ·cases A
def AtsOk (ats:List Nat)(next:Nat):Prop:=ats.Pairwise (·<·)/\∀ p ∈ ats,2<=p/\p<next
theorem chAt_mem (A:i≠0)(h:i<=a.length):chAt a i=a[i - 1]'om:=by
 unfold chAt;rw[if_neg A,gDq,xE om];rfl
theorem rec_right {u:PT}{next c:Nat}(N:AtsOk ats next)(A:next<=4096)(U:ats.length<=4096)(J:u.Wf 0)(V:c=u.ents.length)(W:∀ p ∈ u.pgs,p<4096)(L:c<=4096):(Pg.rc (recP wd 0 ats u c)).right:=by
 have B:∀ i,i≠0->i<=ats.length->2<=chAt ats i/\chAt ats i<4096:=fun i E hi=>by
  rw[chAt_mem E hi];have:=N.2 _ (jT (l:=ats) (n:=i - 1) om);omega
 have O:(recP wd 0 ats u c).ver=ats.length+1:=rfl;have H:(recP wd 0 ats u c).num=ats.length+1:=rfl;refine⟨⟨jK _,?_,?_,?_,?_,?_⟩,qZv wd 256 u⟩
 ·rw[O];show max 1 0<=_;omega
 ·rw[O];omega
 ·show held u.page c
  by_cases A:u=.nil
  ·subst A;exact .inl ⟨rfl,V⟩
  ·have Z:=u.page_pos J A
   have:0<u.ents.length:=List.length_pos_iff.2 fun e=>A (ents_nil J e);exact .inr ⟨om,om,L⟩
 ·intro E
  have E:u.page≠0:=E;have A:u≠.nil:=fun e=>E (by rw[e];rfl);exact⟨u.page_pos J A,W _ (page_pg A)⟩
 ·rw[H]
  show if ats.length+1=1 then chAt ats ats.length=0/\chAt ats (far (ats.length+1))=0 else isPg (chAt ats ats.length)/\skipOk (ats.length+1) (chAt ats ats.length) (chAt ats (far (ats.length+1)));have hf:=far_lt (i:=ats.length+1) om
  by_cases R:ats.length+1=1
  ·rw[if_pos R]
   have Y:ats.length=0:=om
   have T:far (ats.length+1)=0:=om
   rw[Y]at T ⊢;rw[T];exact⟨rfl,rfl⟩
  ·rw[if_neg R]
   refine⟨B _ om (xC _),?_⟩;unfold skipOk
   by_cases I:far (ats.length+1)=0
   ·rw[if_pos I,I];rfl
   ·rw[if_neg I]
    by_cases M:far (ats.length+1)=ats.length+1 - 1
    ·rw[if_pos M,M];rfl
    ·rw[if_neg M]
     refine⟨B _ I om,?_⟩;rw[chAt_mem I om,chAt_mem om (xC _)];exact List.pairwise_iff_getElem.1 N.1 _ _ _ _ om
theorem img_right {wd:Int}{pg:Nat->Option Pg}:∀ (ms:List (List En)) {ats:List Nat} {old:PT} {next:Nat}, old.Wf 0->Stands (dgT wd) (pnOf pg) 0 old->old.page<next->(∀ p ∈ old.pgs, p<next)->old.pgs.length+2<=next->AtsOk ats next->ats.length+2<=next->(∀ m ∈ ms, MapOk m) ->
  PAt pg next (imgP wd 0 ats old next ms)->next+(imgP wd 0 ats old next ms).length<=4096->∀ g ∈ imgP wd 0 ats old next ms,g.right
 | [],_,_,_,_,_,_,_,_,_,_,_,_,_=>fun g B=>by cases B
 | m::ms,ats,old,next,N,Z,a0,O,a7,A,a8,R,E,H=>fun g B=>by
  rw[imgP]at B H E
  cases T:lay 256 0 true old m next with
  | mk t p =>
  rw[T]at B H E;obtain⟨hM,a3⟩:=R m sm;obtain⟨L,M,a9⟩:=lay_ok (f:=256) (n:=0) rfl om N hM om T;obtain⟨b0,hp,a4⟩:=qVr (dg:=dgT wd) (pg:=pnOf pg) (fresh:=next) om (f:=256) (n:=0) rfl om N hM Z a0 (xC _) T;obtain⟨_,hpg,_⟩:=lay_pgs T;have a5:=lay_cnt T;dsimp only at B H E;rw[PAt_app,PAt_cons,zB,<- hp]at E;obtain⟨U,a6,V⟩:=E;have W:=a4.2 (PAt_nd.1 U);rw[lAp,zB,zU]at H
  have I:∀ q ∈ t.pgs,q<p+1:=fun q Y=>by
   rcases hpg q Y with h | h
   ·have:=O q h;omega
   ·omega
  have b1:=ents_pgs t;have J:∀ q ∈ t.pgs,q<4096:=fun q Y=>by have:=I q Y;omega
  rcases List.mem_append.1 B with B | B
  ·obtain⟨n,hn,rfl⟩:=List.mem_map.1 B
   exact news_right next t L W J om (fun e he=>by rw[M]at he;exact⟨hM.2 e he,a3 e he⟩) n hn
  ·rcases List.mem_cons.1 B with rfl | B
   ·exact rec_right A om om L (by rw[M]) J (by rw[<- M];omega)
   ·exact img_right ms L W om I om ⟨by
      refine List.pairwise_append.2 ⟨A.1,List.pairwise_singleton _ _,fun a ha b hb => ?_⟩; rw [List.mem_singleton.1 hb]; have := (A.2 a ha).2
      omega,fun q Y => by
      rcases List.mem_append.1 Y with h | h
      · have := A.2 q h; omega
      · rw [List.mem_singleton.1 h]; omega⟩ (by rw [lAp]; show ats.length + 1 + 2 <= _; omega) (fun m hm => R m (zY _ hm)) V om g B
theorem img_right0 {ms:List (List En)}(A:∀ m ∈ ms,MapOk m)(E:2+(imgP wd 0 [] .nil 2 ms).length<=4096):∀ g ∈ imgP wd 0 [] .nil 2 ms,g.right:=by
 refine img_right (pg:=fun p=>if p<2 then none else (imgP wd 0 [] .nil 2 ms)[p - 2]?) ms (ats:=[]) (old:=.nil) (next:=2) trivial trivial (by show 0<2;decide) (fun p B=>by cases B) (by show 0+2<=2;decide) ⟨List.Pairwise.nil,fun p B=>by cases B⟩ (by show 0+2<=2;decide) A (fun i hi=>?_) E;show (if 2+i<2 then none else _)=_;rw[if_neg om,show 2+i - 2=i by omega,xE hi]
theorem qVc (wd:Int)(first:Nat):∀ (ms:List (List En)) (ats:List Nat) (old:PT) (next:Nat),(imgP wd first ats old next ms.dropLast).length<=(imgP wd first ats old next ms).length
 | [],_,_,_=>xC _
 | [m],ats,old,next=>jK _
 | m::m'::ms,ats,old,next=>by
  rw[List.dropLast_cons₂,imgP,imgP,lAp,lAp,zU,zU];have:=qVc wd first (m'::ms) (ats++[(lay 256 0 true old m next).2]) (lay 256 0 true old m next).1 ((lay 256 0 true old m next).2+1);omega
theorem img_ms (wd:Int)(first:Nat):∀ (ms:List (List En)) (ats:List Nat) (old:PT) (next:Nat),ms.length<=(imgP wd first ats old next ms).length
 | [],_,_,_=>xC _
 | m::ms,ats,old,next=>by
  rw[imgP,lAp,zU,zU];have:=img_ms wd first ms (ats++[(lay 256 0 true old m next).2]) (lay 256 0 true old m next).1 ((lay 256 0 true old m next).2+1);omega
theorem img_pos {first:Nat}{ms:List (List En)}{old:PT}{next:Nat}(h:0<ms.length):0<(imgP wd first ats old next ms).length:=by
 have:=img_ms wd first ms ats old next;omega
def markP (wd:Nat)(ms:List (List En)):Nat:=2+(imgP wd 0 [] .nil 2 ms).length
def headP (m:Nat):Nat:=if 2<m then m - 1 else 0
def nowS (wd:Nat)(ms:List (List En))(n:Nat):Sup:=⟨wd,1+ms.length,markP wd ms,n,headP (markP wd ms)⟩
def wasS (wd:Nat)(ms:List (List En))(n:Nat):Sup:=⟨wd,ms.length,markP wd ms.dropLast,n,headP (markP wd ms.dropLast)⟩
def supsP (wd:Nat)(ms:List (List En))(n:Nat):Bs:=if (1+ms.length) % 2=1 then supB (wasS wd ms n)++supB (nowS wd ms n) else supB (nowS wd ms n)++supB (wasS wd ms n)
def dskP (wd:Nat)(ms:List (List En))(n:Nat):Bs:=supsP wd ms n++qXy 2 (imgP wd 0 [] .nil 2 ms)++zK (256*n - 256*markP wd ms) 0
theorem sups_len (wd:Nat)(ms:List (List En))(n:Nat):(supsP wd ms n).length=512:=by
 unfold supsP
 split <;> rw[lAp,qJs,qJs]
theorem bytes_len {G:List Pg}(h:∀ g ∈ G,g.right):(qXy p G).length=256*G.length:=by
 induction G generalizing p with
 | nil=>rfl
 | cons g G A =>
  rw[qXy,lAp,A fun x B=>h x (zY _ B),zU];have:(g.bytes p).length=256:=pagB_len (fit_len (right_fit (h g zD)));omega
theorem bytes_at {G:List Pg}(h:∀ g ∈ G,g.right)(hi:i<G.length):((qXy p G).drop (256*i)).take 256=G[i].bytes (p+i):=by
 induction G generalizing p i with
 | nil=>exact absurd hi sm
 | cons g G B =>
  have A:(g.bytes p).length=256:=pagB_len (fit_len (right_fit (h g zD)));rw[qXy]
  cases i with
  | zero=>rw[Nat.mul_zero,List.drop_zero,List.take_left' A];rfl
  | succ i =>
   rw[show 256*(i+1)=256+256*i by omega,<- List.drop_drop,zP A,B (fun x E=>h x (zY _ E)) (by simpa using hi),List.getElem_cons_succ]
   congr 1;omega
theorem head_ok (A:2<=m)(B:m<=n):headP m=0∨2<=headP m/\headP m<m:=by
 unfold headP;split
 ·exact .inr ⟨om,om⟩
 ·exact .inl rfl
theorem newer_a {a b:Sup}(A:a.gen % 2=0)(B:b.gen % 2=1)(E:a.width=b.width)(H:a.pages=b.pages)(I:a.gen=b.gen+1)(J:b.mark<=a.mark):qJy a b=.ok a:=by
 unfold qJy;rw[if_pos ⟨A,B,E,H⟩,if_pos ⟨I,J⟩]
theorem newer_b {a b:Sup}(A:a.gen % 2=0)(B:b.gen % 2=1)(E:a.width=b.width)(H:a.pages=b.pages)(I:b.gen=a.gen+1)(J:a.mark<=b.mark):qJy a b=.ok b:=by
 unfold qJy;rw[if_pos ⟨A,B,E,H⟩,if_neg (fun h=>by omega),if_pos ⟨I,J⟩]
theorem was_mark (wd:Nat)(ms:List (List En))(n:Nat):(wasS wd ms n).mark<=(nowS wd ms n).mark:=by
 have:=qVc wd 0 ms [] .nil 2;show markP wd ms.dropLast<=markP wd ms;unfold markP;omega
theorem dsk_clean {wd n:Nat}{ms:List (List En)}(hw:1<=wd/\wd<=32)(hn:3<=n/\n<=4096)(O:∀ m ∈ ms,MapOk m)(E:markP wd ms<=n):lookP (dskP wd ms n)=.ok (nowS wd ms n,[])/\(dskP wd ms n).length=256*n:=by
 have b5:2+(imgP wd 0 [] .nil 2 ms).length<=n:=E;have hG:=img_right0 (wd:=wd) O om;have b1:=img_ms wd 0 ms [] .nil 2;have b6:=qVc wd 0 ms [] .nil 2;have m1:2<=markP wd ms:=by unfold markP;omega
 have m2:2<=markP wd ms.dropLast:=by unfold markP;omega
 have m3:markP wd ms.dropLast<=n:=by unfold markP;omega
 have J:(nowS wd ms n).ok:=⟨hw,show 1+ms.length<=2 ^ 40 by omega,hn,⟨m1,E⟩,head_ok m1 E⟩
 have Y:(wasS wd ms n).ok:=⟨hw,show ms.length<=2 ^ 40 by omega,hn,⟨m2,m3⟩,head_ok m2 m3⟩
 obtain⟨n1,n2⟩:=supP_supB J;obtain⟨w1,w2⟩:=supP_supB Y;have R:=bytes_len (p:=2) hG;have b3:markP wd ms=2+(imgP wd 0 [] .nil 2 ms).length:=rfl
 have H:(dskP wd ms n).length=256*n:=by
  unfold dskP;rw[lAp,lAp,sups_len,R,lRe];omega
 refine⟨?_,H⟩
 have T:∀ p,p<2->pgB (dskP wd ms n) p=pgB (supsP wd ms n) p:=fun p I=>by
  unfold pgB dskP;rw[List.append_assoc,zM (by rw[sups_len];omega),zF (by rw[lDr,sups_len];omega)]
 have pl:∀ a b:Bs,a.length=256->b.length=256->pgB (a++b) 0=a/\pgB (a++b) 1=b:=fun a b ha hb=>by
  unfold pgB;rw[Nat.mul_zero,List.drop_zero,List.take_left' ha,Nat.mul_one,zP ha,List.take_of_length_le om];exact⟨rfl,rfl⟩
 have U:qXq (pgB (dskP wd ms n) 0) (pgB (dskP wd ms n) 1)=.ok (nowS wd ms n)/\∀ p,p<2->zer ((pgB (dskP wd ms n) p).drop 64)=true:=by
  rw[T 0 x9,T 1 x9]
  have e:∀ a b:Bs,pgB (supsP wd ms n) 0=a->pgB (supsP wd ms n) 1=b->zer (a.drop 64)=true->zer (b.drop 64)=true->∀ p,p<2->zer ((pgB (dskP wd ms n) p).drop 64)=true:=fun a b h0 h1 ha hb p I=>by
   rw[T p I]
   rcases (show p=0∨p=1 by omega) with rfl | rfl
   ·rw[h0];exact ha
   ·rw[h1];exact hb
  by_cases hg:(1+ms.length) % 2=1
  ·obtain⟨V,W⟩:=pl _ _ (qJs (wasS wd ms n)) (qJs (nowS wd ms n))
   have es:supsP wd ms n=supB (wasS wd ms n)++supB (nowS wd ms n):=if_pos hg;rw[<- es]at V W;refine⟨?_,e _ _ V W w2 n2⟩;rw[V,W];unfold qXq;rw[w1,n1];exact newer_b (show ms.length % 2=0 by omega) hg rfl rfl (show 1+ms.length=ms.length+1 by omega) (was_mark wd ms n)
  ·obtain⟨V,W⟩:=pl _ _ (qJs (nowS wd ms n)) (qJs (wasS wd ms n))
   have es:supsP wd ms n=supB (nowS wd ms n)++supB (wasS wd ms n):=if_neg hg;rw[<- es]at V W;refine⟨?_,e _ _ V W n2 w2⟩;rw[V,W];unfold qXq;rw[w1,n1];exact newer_a (show (1+ms.length) % 2=0 by omega) (show ms.length % 2=1 by omega) rfl rfl (show 1+ms.length=ms.length+1 by omega) (was_mark wd ms n)
 obtain⟨U,hz⟩:=U
 have ho:openP (dskP wd ms n)=.ok (nowS wd ms n):=by
  unfold openP;rw[H,if_neg om,if_neg om,U];show (if n≠_ then _ else _)=_;rw[if_neg om]
 have L:∀ i (h:i<(imgP wd 0 [] .nil 2 ms).length),qZb (2+i) (pgB (dskP wd ms n) (2+i))=.ok (imgP wd 0 [] .nil 2 ms)[i]:=fun i hi=>by
  have e:pgB (dskP wd ms n) (2+i)=(imgP wd 0 [] .nil 2 ms)[i].bytes (2+i):=by
   rw[<- bytes_at hG hi];unfold pgB dskP;rw[List.append_assoc,show 256*(2+i)=512+256*i by omega,<- List.drop_drop,zP (sups_len ..),zM (by rw[R];omega),zF (by rw[lDr,R];omega)]
  exact (alone_iff (pgB_len (by rw[H];omega)) om).2 ⟨hG _ (jT hi),e⟩
 have B:PAt (pgF (dskP wd ms n) (markP wd ms)) 2 (imgP wd 0 [] .nil 2 ms):=fun i hi=>by
  unfold pgF;rw[if_pos om,L i hi]
 have a3:qXx (dskP wd ms n) (markP wd ms)=[]:=by
  unfold qXx;rw[List.filterMap_eq_nil_iff];intro p I;have I:=List.mem_range.1 I
  have:qXv (dskP wd ms n) p=0:=by
   unfold qXv
   by_cases h2:p<2
   ·rw[if_pos h2,hz p h2];rfl
   ·rw[if_neg h2]
    have:=L (p - 2) om;rw[show 2+(p - 2)=p by omega]at this;rw[this]
  rw[if_pos this]
 rw[qVp,ho];show Except.ok (nowS wd ms n,qJi (dskP wd ms n) (nowS wd ms n))=_
 congr 2
 unfold qJi;rw[show (nowS wd ms n).mark=markP wd ms from rfl,if_pos a3];have A:=pgOk (im:=dskP wd ms n) J;rw[show (nowS wd ms n).mark=markP wd ms from rfl]at A;generalize pgF (dskP wd ms n) (markP wd ms)=pg at *
 have a4:(0:Nat)=(rcAt pg (chAt (chF pg (markP wd ms)) 1)).first:=by
  by_cases h0:ms=[]
  ·subst h0
   have e:∀ p,pg p=none:=fun p=>by
    cases h:pg p with
    | none=>rfl
    | some g =>
     have hm:markP wd []=2:=rfl
     by_cases h2:p<2
     ·cases g with
      | nd n=>have:=(A.hnd p n h).1;omega
      | rc r=>have:=(A.hrc p r h).1;omega
     ·rw[A.hpg p (by rw[hm];omega)]at h;cases h
   have:chF pg (markP wd [])=[]:=by
    unfold chF;rw[List.filter_eq_nil_iff];intro p _;rw[e p];simp
   rw[this];show 0=(rcAt pg 0).first;unfold rcAt;rw[e 0]
  ·cases ms with
   | nil=>exact absurd rfl h0
   | cons m ms =>
    rw[imgP]at B
    cases hL:lay 256 0 true .nil m 2 with
    | mk t p =>
    rw[hL]at B;dsimp only at B;obtain⟨hM,_⟩:=O m sm;obtain⟨b7,b8,b9⟩:=lay_ok (f:=256) (n:=0) rfl om (o:=.nil) trivial hM om hL;obtain⟨c0,I,c3⟩:=qVr (dg:=dgT wd) (pg:=pnOf pg) (fresh:=2) om (f:=256) (n:=0) rfl om (o:=.nil) trivial hM trivial (by show 0<2;decide) (xC _) hL;rw[PAt_app,PAt_cons,zB,<- I]at B;obtain⟨Z,M,b4⟩:=B;have N:=chF_nds Z;rw[<- I]at N
    have e:∀ p,p<2->pg p=none:=fun p I=>by
     cases h:pg p with
     | none=>rfl
     | some g =>
      cases g with
      | nd n=>have:=(A.hnd p n h).1;omega
      | rc r=>have:=(A.hrc p r h).1;omega
    have a5:chF pg 2=[]:=by rw[qVg,qVg,e 0 om,e 1 om];rfl
    have a0:chF pg (p+1)=[p]:=by rw[qVg,N,M,a5];rfl
    have a6:p+1<=markP wd (m::ms):=by
     unfold markP;rw[imgP,hL,lAp,zB,zU];dsimp only;omega
    obtain⟨r,hr⟩:=chF_pre pg a6;rw[a0]at hr;rw[hr];show 0=(rcAt pg p).first;rw[PAt_rc M];rfl
 have a7:chF pg 2=[]:=by
  have e:∀ p,p<2->pg p=none:=fun p I=>by
   cases h:pg p with
   | none=>rfl
   | some g =>
    cases g with
    | nd n=>have:=(A.hnd p n h).1;omega
    | rc r=>have:=(A.hrc p r h).1;omega
  rw[qVg,qVg,e 0 om,e 1 om];rfl
 obtain⟨v1,v2,v3⟩:=img_vers (wd:=wd) (first:=0) A ms (ats:=[]) (old:=.nil) (next:=2) a7 trivial trivial (by show 0<2;omega) ⟨List.Pairwise.nil,fun e he=>by cases he⟩ rfl (fun m hm=>(O m hm).1) a4 B rfl;have v2:(chF pg (markP wd ms)).length=ms.length:=by rw[v2];exact Nat.zero_add _
 have v1:versP wd pg (chF pg (markP wd ms)) ms.length 1 .nil=.ok ():=v1
 have a8:wholeP wd pg (chF pg (markP wd ms)) (markP wd ms) (headP (markP wd ms))=.ok ():=by
  unfold wholeP;rw[v2,v1];show (if max 1 (chAt (chF pg (markP wd ms)) ms.length)+1<markP wd ms then .error _ else if 0<ms.length/\headP (markP wd ms)≠max 1 (chAt (chF pg (markP wd ms)) ms.length) then .error _ else .ok ():Except (Nat × Int) Unit)=_;rw[v2]at v3;rw[if_neg om,if_neg fun h=>?_];refine h.2 ?_;have I:=img_pos (wd:=wd) (first:=0) (ats:=[]) (old:=.nil) (next:=2) h.1;unfold headP;rw[if_pos om];omega
 have a9:(nowS wd ms n).width=wd:=rfl;have b0:(nowS wd ms n).head=headP (markP wd ms):=rfl;rw[a9,b0,a8]
end Aud
namespace Aud
theorem fil_split (n:Nat)(m:List En):(m.filter fun x=>!kbit x.1 n).length+(m.filter fun x=>kbit x.1 n).length=m.length:=by
 induction m with
 | nil=>rfl
 | cons e m A =>
  rw[List.filter_cons,List.filter_cons]
  cases kbit e.1 n <;> simp <;> omega
theorem lay_up:∀ {f n:Nat} {at':Bool} {o:PT} {m:List En} {next:Nat} {t:PT} {next':Nat},lay f n at' o m next=(t,next')->next'<=next+(f+1)*m.length:=by
 have one:∀ {k v:Bs} {o:PT} {next:Nat} {t:PT} {next':Nat},(match pageOf k v o with | some p=>(PT.leaf p k v,next) | none=>(PT.leaf next k v,next+1))=(t,next')->next'<=next+1:=fun {k v o next t next'} h=>by
  cases E:pageOf k v o with
  | some q=>rw[E]at h;cases h;omega
  | none=>rw[E]at h;cases h;omega
 intro f
 induction f with
 | zero =>
  intro n at' o m next t next' h
  cases m with
  | nil=>unfold lay at h;cases h;omega
  | cons e r =>
   unfold lay at h;have:=one h;rw[zU];omega
 | succ f H =>
  intro n at' o m next t next' h
  cases m with
  | nil=>unfold lay at h;cases h;omega
  | cons e r =>
   have M:(f+1+1)*(e::r).length=(f+1)*(e::r).length+(r.length+1):=by rw[Nat.succ_mul (f+1)];rfl
   unfold lay at h;split at h
   ·cases h;omega
   ·split at h
    ·have:=one h;omega
    ·obtain⟨l,A,I⟩:∃ l A,lay f (n+1) (at' && isBr o) (kid n false o) ((e::r).filter fun x=>!kbit x.1 n) next=(l,A):=⟨_,_,rfl⟩
     obtain⟨J,B,L⟩:∃ J B,lay f (n+1) (at' && isBr o) (kid n true o) ((e::r).filter fun x=>kbit x.1 n) A=(J,B):=⟨_,_,rfl⟩
     rw[I]at h;have h:(PT.br (lay f (n+1) (at' && isBr o) (kid n true o) ((e::r).filter fun x=>kbit x.1 n) A).2 l (lay f (n+1) (at' && isBr o) (kid n true o) ((e::r).filter fun x=>kbit x.1 n) A).1,(lay f (n+1) (at' && isBr o) (kid n true o) ((e::r).filter fun x=>kbit x.1 n) A).2+1)=(t,next'):=h;rw[L]at h;cases h;have a:=H I;have b:=H L;have c:=fil_split n (e::r);have d:(f+1)*((e::r).filter fun x=>!kbit x.1 n).length+(f+1)*((e::r).filter fun x=>kbit x.1 n).length=(f+1)*(e::r).length:=by rw[<- Nat.mul_add,c]
     show B+1<=_;omega
def wsum:List En->List (List En)->Nat
 | _,[]=>0
 | p,m::ms=>(if m=p then 0 else m.length)+wsum m ms
theorem img_bound {wd:Int}{first:Nat}:∀ (ms:List (List En)) {ats:List Nat} {old:PT} {next:Nat},old.Wf 0->(∀ p ∈ old.pgs,p<next)->2<=next->(∀ m ∈ ms,Map 0 m)->(imgP wd first ats old next ms).length<=ms.length+257*wsum old.ents ms
 | [],_,_,_,_,_,_,_=>jK _
 | m::ms,ats,old,next,A,B,N,E=>by
  rw[imgP]
  cases H:lay 256 0 true old m next with
  | mk t p =>
  have O:=E m sm;obtain⟨J,L,R⟩:=lay_ok (f:=256) (n:=0) rfl om A O N H;obtain⟨_,hpg,_⟩:=lay_pgs H;have V:=lay_len (dgT wd) (fresh:=next) B (xC _) om H;dsimp only
  have T:=img_bound (wd:=wd) (first:=first) ms (ats:=ats++[p]) (old:=t) (next:=p+1) J (fun q U=>by
   rcases hpg q U with h | h
   ·have:=B q h;omega
   ·omega) om (fun m I=>E m (zY _ I))
  rw[L]at T;rw[lAp,zB,zU,zU];have e:wsum old.ents (m::ms)=(if m=old.ents then 0 else m.length)+wsum m ms:=rfl;rw[e]
  by_cases I:m=old.ents
  ·rw[if_pos I]
   have M:=lay_same (f:=256) A rfl next;rw[<- I,H]at M;have:p=next:=congrArg Prod.snd M;omega
  ·rw[if_neg I]
   have W:=lay_up H;omega
theorem wsum_snoc (p:List En)(ms:List (List En))(m:List En):wsum p (ms++[m])=wsum p ms+(if m=(p::ms).getLast sm then 0 else m.length):=by
 induction ms generalizing p with
 | nil=>show (if m=p then 0 else m.length)+0=0+(if m=p then 0 else m.length);omega
 | cons a ms A =>
  rw[List.cons_append];unfold wsum;rw[A a,Nat.add_assoc]
  congr 2
theorem tri {S c r:Nat}(A:1<=c)(h:2*r<=S*(S+1)):2*(r+(S+c))<=(S+c)*(S+c+1):=by
 obtain⟨d,rfl⟩:∃ d,c=d+1:=⟨c - 1,om⟩
 have e:(S+(d+1))*(S+(d+1)+1)=S*(S+1)+(2*S+d+2)+d*(2*S+d+2):=by
  simp only[Nat.mul_add,Nat.add_mul,Nat.mul_one,Nat.one_mul,Nat.mul_left_comm d 2 S,Nat.mul_comm d S];omega
 have:d*2<=d*(2*S+d+2):=Nat.mul_le_mul_left _ om;omega
end Aud
namespace Aud
def kz:Bs:=zK 32 0
def smR (D:Bs):Rc:=⟨1,0,0,0,2,1,D⟩
def smS:Sup:=⟨3,2,4,5,3⟩
def smW:Sup:=⟨3,1,2,5,0⟩
def smI (D:Bs):Bs:=supB smS++(supB smW++(pagB 1 2 (kz++[7])++(pagB 3 3 (lodR (smR D))++zK 256 0)))
end Aud
namespace Aud
def bitAt (b:Bs)(k:Nat):Bool:=(b.getD (k / 8) 0).getLsbD (k % 8)
def regs (m:Nat->Bool)(r:W32):Nat->W32
 | 0=>r
 | i+1=>qQy (regs m r i) (m i)
theorem bitFeed_xor (a c:W32)(x y:Bool):qQy (a ^^^ c) (x != y)=qQy a x ^^^ qQy c y:=by
 unfold qQy;rw[<- step1_xor]
 congr 1
 refine xS fun j A=>?_
 cases x <;> cases y <;> simp[Bool.xor_comm,Bool.xor_left_comm]
theorem regs_xor (m m':Nat->Bool)(r A:W32)(n:Nat):regs (fun i=>m i != m' i) (r ^^^ A) n=regs m r n ^^^ regs m' A n:=by
 induction n with
 | zero=>rfl
 | succ n B =>
  show qQy (regs (fun i=>m i != m' i) (r ^^^ A) n) (m n != m' n)=_;rw[B,bitFeed_xor];rfl
theorem regs_split (m:Nat->Bool)(r:W32)(a n:Nat):regs m r (a+n)=regs (fun i=>m (a+i)) (regs m r a) n:=by
 induction n with
 | zero=>rfl
 | succ n A =>
  show qQy (regs m r (a+n)) (m (a+n))=qQy _ (m (a+n));rw[A]
theorem regs_congr {m m':Nat->Bool}{r:W32}(h:∀ i,i<n->m i=m' i):regs m r n=regs m' r n:=by
 induction n with
 | zero=>rfl
 | succ n A =>
  show qQy _ _=qQy _ _;rw[A fun i hi=>h i om,h n om]
theorem fold_regs (l:List Bool)(r:W32):l.foldl qQy r=regs (fun i=>l.getD i false) r l.length:=by
 induction l generalizing r with
 | nil=>rfl
 | cons b l A =>
  rw[List.foldl_cons,A,zU,Nat.add_comm,regs_split];show _=regs (fun i=>(b::l).getD (1+i) false) (qQy r b) l.length;exact regs_congr fun i _=>by rw[Nat.add_comm];rfl
theorem allBits_at (bs:Bs)(i:Nat):(qZs bs).getD i false=bitAt bs i:=by
 induction bs generalizing i with
 | nil=>simp[qZs,bitAt]
 | cons x bs A =>
  show (bitsOf x++qZs bs).getD i false=_;have B:(bitsOf x).length=8:=by simp[bitsOf]
  by_cases h:i<8
  ·rw[gDq,List.getElem?_append_left om]
   unfold bitAt;rw[show i / 8=0 by omega,show i % 8=i by omega];show ((bitsOf x)[i]?).getD false=x.getLsbD i;unfold bitsOf;rw[List.getElem?_map,List.getElem?_range h];rfl
  ·rw[gDq,List.getElem?_append_right om,<- gDq,B,A]
   unfold bitAt;rw[show i / 8=(i - 8) / 8+1 by omega,show i % 8=(i - 8) % 8 by omega];rfl
theorem crcFeed_regs (r:W32)(bs:Bs):qKf r bs=regs (bitAt bs) r (8*bs.length):=by
 rw[crcFeed_bits,fold_regs,allBits_len];exact regs_congr fun i _=>allBits_at bs i
theorem bitFeed_zero {r:W32}(h:qQy r false=0):r=0:=by
 have e:qQy r false=step1 r:=by unfold qQy;simp
 rw[e]at h;have A:(step1 r).getLsbD 31=false:=by rw[h];rfl
 rw[qZa om]at A;have B:crcG.getLsbD 31=true:=x9
 have E:r.getLsbD (31+1)=false:=jB _ _ om;rw[B,E]at A
 have H:r.getLsbD 0=false:=by revert A;cases r.getLsbD 0 <;> simp
 refine xS fun j J=>?_;rw[show (0:W32).getLsbD j=false by simp]
 cases j with
 | zero=>exact H
 | succ j =>
  have I:(step1 r).getLsbD j=false:=by rw[h];simp
  rw[qZa om,H]at I
  revert I;cases r.getLsbD (j+1) <;> simp
theorem back1 {r:W32}{b:Bool}{d:Nat}(J:d<32)(h:∀ j,d<=j->(qQy r b).getLsbD j=false):∀ j,j<32->r.getLsbD j=if j=0 then b else (qQy r b).getLsbD (j - 1):=by
 have B:crcG.getLsbD 31=true:=x9
 have e:∀ j,j<32->(qQy r b).getLsbD j=((r ^^^ (if b then 1 else 0)).getLsbD (j+1) != ((r ^^^ (if b then 1 else 0)).getLsbD 0 && crcG.getLsbD j)):=fun j I=>qZa I;have A:=h 31 om;have E:(r ^^^ (if b then 1 else 0)).getLsbD (31+1)=false:=jB _ _ om;rw[e 31 om,B,E]at A
 have H:(r ^^^ (if b then 1 else 0)).getLsbD 0=false:=by revert A;cases (r ^^^ (if b then 1 else 0)).getLsbD 0 <;> simp
 intro j I
 cases j with
 | zero =>
  rw[if_pos rfl];rw[xG]at H
  revert H
  cases b <;> cases r.getLsbD 0 <;> simp
 | succ j =>
  rw[if_neg om,Nat.add_sub_cancel,e j om,H,jR,xG]
  have z:(if b then (1:W32) else 0).getLsbD (j+1)=false:=by
   cases b
   ·simp
   ·show (1#32).getLsbD (j+1)=false
    rw[jD];simp
  rw[z];simp
theorem backs {m:Nat->Bool}{r:W32}{E:Nat}(J:regs m r E=0):∀ d,d<=32->d<=E->∀ j,(regs m r (E - d)).getLsbD j=if j<d then m (E - d+j) else false:=by
 intro d
 induction d with
 | zero=>intro _ _ j;rw[Nat.sub_zero,J,if_neg om];simp
 | succ d A =>
  intro M N j;have A:=A om om
  have e:regs m r (E - d)=qQy (regs m r (E - (d+1))) (m (E - (d+1))):=by
   rw[show E - d=E - (d+1)+1 by omega];rfl
  rw[e]at A;have L:=back1 (d:=d) om fun j B=>by rw[A j,if_neg om]
  by_cases B:j<32
  ·rw[L j B]
   by_cases H:j=0
   ·subst H;rw[if_pos rfl,if_pos om];rfl
   ·rw[if_neg H,A]
    by_cases I:j - 1<d
    ·rw[if_pos I,if_pos om];congr 1;omega
    ·rw[if_neg I,if_neg om]
  ·rw[jB _ _ om,if_neg om]
theorem burst_zero {e:Nat->Bool}{N a:Nat}(h:regs e 0 N=0)(B:∀ i,i<N->i<a∨a+32<=i->e i=false):∀ i,i<N->e i=false:=by
 have fz:qQy 0 false=0:=x9
 have lo:∀ i,i<=a->i<=N->regs e 0 i=0:=by
  intro i
  induction i with
  | zero=>intro _ _;rfl
  | succ i A =>
   intro I M;show qQy (regs e 0 i) (e i)=0;rw[A om om,B i om (.inl om),fz]
 have hi:∀ d,d<=N - (a+32)->regs e 0 (N - d)=0:=by
  intro d
  induction d with
  | zero=>intro _;exact h
  | succ d A =>
   intro I;have A:=A om;rw[show N - d=N - (d+1)+1 by omega]at A;have A:qQy (regs e 0 (N - (d+1))) (e (N - (d+1)))=0:=A;rw[B (N - (d+1)) om (.inr om)]at A;exact bitFeed_zero A
 intro i E
 by_cases J:i<a∨a+32<=i
 ·exact B i E J
 ·have L:regs e 0 (min (a+32) N)=0:=by
   have:=hi (N - (a+32)) (xC _)
   rwa [show N - (N - (a+32))=min (a+32) N by omega]at this
  have H:=backs L (min (a+32) N - a) om om (i - a);rw[show min (a+32) N - (min (a+32) N - a)=a by omega,lo a (xC _) om,if_pos om,show a+(i - a)=i by omega]at H;rw[<- H];simp
theorem bitAt_seal (s:W32)(hi:i<32):bitAt (sealB s) i=s.getLsbD i:=by
 unfold bitAt sealB;have A:i / 8=0∨i / 8=1∨i / 8=2∨i / 8=3:=om
 rcases A with h | h | h | h <;> rw[h]
 ·show (s.setWidth 8).getLsbD (i % 8)=_
  rw[jH,decide_eq_true om,jP];congr 1;omega
 ·show ((s >>> 8).setWidth 8).getLsbD (i % 8)=_
  rw[jH,decide_eq_true om,jP,jF];congr 1;omega
 ·show ((s >>> 16).setWidth 8).getLsbD (i % 8)=_
  rw[jH,decide_eq_true om,jP,jF];congr 1;omega
 ·show ((s >>> 24).setWidth 8).getLsbD (i % 8)=_
  rw[jH,decide_eq_true om,jP,jF];congr 1;omega
theorem qZg {b:Bs}(h:i<8*n):bitAt (b.take n) i=bitAt b i:=by
 unfold bitAt;rw[gDq,gDq,xO,if_pos om]
theorem bitAt_drop (b:Bs)(n i:Nat):bitAt (b.drop n) i=bitAt b (8*n+i):=by
 unfold bitAt;rw[gDq,gDq,List.getElem?_drop,show n+i / 8=(8*n+i) / 8 by omega,show i % 8=(8*n+i) % 8 by omega]
theorem regs_self (d:W32)(n:Nat):regs (fun i=>d.getLsbD i) d n=d >>> n:=by
 induction n with
 | zero=>rw[BitVec.ushiftRight_zero];rfl
 | succ n A =>
  show qQy (regs (fun i=>d.getLsbD i) d n) (d.getLsbD n)=_;rw[A];unfold qQy
  have z:(d >>> n ^^^ (if d.getLsbD n=true then 1 else 0)).getLsbD 0=false:=by
   rw[xG,jF,Nat.add_zero]
   cases d.getLsbD n <;> simp
  refine xS fun j B=>?_;rw[qZa B,z,jR,xG,jF,jF]
  have y:(if d.getLsbD n=true then (1:W32) else 0).getLsbD (j+1)=false:=by
   cases d.getLsbD n
   ·simp
   ·show (1#32).getLsbD (j+1)=false
    rw[jD];simp
  rw[y,Bool.xor_false,jN]
  congr 1;omega
theorem whole_bits (B:4<=x.length)(A:qXw x=true):∀ i,i<32->bitAt x (8*(x.length - 4)+i)=(~~~ regs (bitAt x) (~~~ 0) (8*(x.length - 4))).getLsbD i:=by
 intro i hi;unfold qXw at A;have A:=of_decide_eq_true A;rw[<- bitAt_drop,A,bitAt_seal _ hi];unfold qKg;rw[crcFeed_regs,lTk,Nat.min_eq_left om]
 congr 2
 exact regs_congr fun i h=>qZg h
theorem burst_whole (B:x.length=y.length)(E:4<=x.length)(L:qXw x=true)(M:qXw y=true){a:Nat}(N:∀ i,i<8*x.length->i<a∨a+32<=i->bitAt x i=bitAt y i):x=y:=by
 have O:=whole_bits E L;have A:=whole_bits (B ▸ E) M;rw[<- B]at A
 have H:regs (fun i=>bitAt x i != bitAt y i) 0 (8*(x.length - 4)+32)=0:=by
  rw[regs_split]
  have e:regs (fun i=>bitAt x i != bitAt y i) 0 (8*(x.length - 4))=regs (bitAt x) (~~~ 0) (8*(x.length - 4)) ^^^ regs (bitAt y) (~~~ 0) (8*(x.length - 4)):=by
   rw[<- regs_xor,BitVec.xor_self];rfl
  rw[e];generalize regs (bitAt x) (~~~ 0) (8*(x.length - 4))=I at *;generalize regs (bitAt y) (~~~ 0) (8*(x.length - 4))=J at *
  rw[regs_congr (m':=fun i=>(I ^^^ J).getLsbD i) fun i hi=>by
   show (bitAt x (8*(x.length - 4)+i) != bitAt y (8*(x.length - 4)+i))=_;rw[O i hi,A i hi,xG,jM,jM,decide_eq_true hi]
   cases I.getLsbD i <;> cases J.getLsbD i <;> rfl,regs_self]
  refine xS fun j R=>?_;rw[jF,jB _ _ om];simp
 rw[show 8*(x.length - 4)+32=8*x.length by omega]at H;have T:=burst_zero (a:=a) H fun i hi U=>by rw[N i hi U];simp
 refine List.ext_getElem B fun i V W=>xS fun j R=>?_;have h:=T (8*i+j) om
 have h:bitAt x (8*i+j)=bitAt y (8*i+j):=by revert h;cases bitAt x (8*i+j) <;> cases bitAt y (8*i+j) <;> simp
 unfold bitAt at h;rw[show (8*i+j) / 8=i by omega,show (8*i+j) % 8=j by omega,gDq,gDq,xE V,xE W]at h;exact h
def flipB (im:Bs)(k:Nat):Bs:=im.set (k / 8) (im.getD (k / 8) 0 ^^^ (1#8 <<< (k % 8)))
theorem flip_len (im:Bs)(k:Nat):(flipB im k).length=im.length:=by unfold flipB;exact List.length_set
theorem flip_at {k:Nat}(E:k / 8<im.length)(j:Nat):bitAt (flipB im k) j=(bitAt im j != decide (j=k)):=by
 unfold bitAt flipB;rw[gDq,List.getElem?_set]
 by_cases h:k / 8=j / 8
 ·rw[if_pos h,if_pos om,Option.getD_some,xG,h]
  have B:(1#8 <<< (k % 8)).getLsbD (j % 8)=decide (j=k):=by
   rw[BitVec.getLsbD_shiftLeft,jD,decide_eq_true (show j % 8<8 by omega)]
   by_cases e:j=k
   ·subst e;simp
   ·rw[decide_eq_false e]
    by_cases A:j % 8<k % 8
    ·simp[A]
    ·have hne:j % 8 - k % 8≠0:=om
     simp[hne]
  rw[B]
 ·rw[if_neg h,<- gDq,decide_eq_false om];simp
def hitP (b:Nat)(pat:W32)(i:Nat):Prop:=b+i<2048/\pat.getLsbD i=true
instance (b:Nat) (pat:W32) (i:Nat):Decidable (hitP b pat i):=by unfold hitP;infer_instance
def qQn (im:Bs)(q b:Nat)(pat:W32):Nat->Bs
 | 0=>im
 | i+1=>if hitP b pat i then flipB (qQn im q b pat i) (8*(256*q+(b+i) / 8)+(b+i) % 8) else qQn im q b pat i
def qQu (q b:Nat)(pat:W32):Nat->Nat
 | 0=>0
 | i+1=>qQu q b pat i+(if hitP b pat i then (if q<2/\b+i<512 then 101 else 1) else 0)
theorem qZr (im:Bs)(q b:Nat)(pat:W32)(n:Nat):(qQn im q b pat n).length=im.length:=by
 induction n with
 | zero=>rfl
 | succ n A =>
  unfold qQn;split
  ·rw[flip_len,A]
  ·exact A
theorem burst_at {pat:W32}(I:256*q+256<=im.length)(n j:Nat):bitAt (qQn im q b pat n) j=(bitAt im j != decide (2048*q+b<=j/\j<2048*q+b+n/\hitP b pat (j - (2048*q+b)))):=by
 induction n with
 | zero=>rw[decide_eq_false om];show bitAt im j=_;simp
 | succ n B =>
  unfold qQn
  by_cases h:hitP b pat n
  ·rw[if_pos h]
   have J:=h.1;rw[flip_at (by rw[qZr];omega),B]
   by_cases e:j=2048*q+b+n
   ·subst e
    have H:2048*q+b+n - (2048*q+b)=n:=om
    rw[decide_eq_true (show 2048*q+b+n=8*(256*q+(b+n) / 8)+(b+n) % 8 by omega),H,decide_eq_false om,decide_eq_true ⟨om,om,h⟩];simp
   ·rw[decide_eq_false (show ¬ j=8*(256*q+(b+n) / 8)+(b+n) % 8 by omega)]
    rw[jN]
    congr 1
    exact decide_eq_decide.2 ⟨fun h=>⟨h.1,om,h.2.2⟩,fun h=>⟨h.1,om,h.2.2⟩⟩
  ·rw[if_neg h,B]
   congr 1
   refine decide_eq_decide.2 ⟨fun h=>⟨h.1,om,h.2.2⟩,fun A=>⟨A.1,?_,A.2.2⟩⟩;have E:=A.2.2
   by_cases e:j=2048*q+b+n
   ·subst e
    rw[show 2048*q+b+n - (2048*q+b)=n by omega]at E;exact absurd E h
   ·omega
theorem turned_le (q b:Nat)(pat:W32)(n:Nat):qQu q b pat n<=101*n:=by
 induction n with
 | zero=>exact xC _
 | succ n A=>unfold qQu;split <;> (try split) <;> omega
theorem turned_zero {pat:W32}(h:qQu q b pat n=0):∀ i,i<n->¬ hitP b pat i:=by
 induction n with
 | zero=>intro i hi;omega
 | succ n A =>
  unfold qQu at h;intro i hi
  by_cases e:i=n
  ·subst e
   intro B;rw[if_pos B]at h
   split at h <;> omega
  ·exact A om i om
theorem turned_hit {pat:W32}(h:qQu q b pat n≠0):∃ i,i<n/\hitP b pat i:=by
 induction n with
 | zero=>exact absurd rfl h
 | succ n B =>
  unfold qQu at h
  by_cases A:hitP b pat n
  ·exact⟨n,om,A⟩
  ·rw[if_neg A,Nat.add_zero]at h
   obtain⟨i,hi,h⟩:=B h;exact⟨i,om,h⟩
theorem turned_low {pat:W32}(I:n<=32)(h:qQu q b pat n<100):qQu q b pat n<=n/\∀ i,i<n->hitP b pat i->¬ (q<2/\b+i<512):=by
 induction n with
 | zero=>exact⟨xC _,fun i hi=>by omega⟩
 | succ n E =>
  unfold qQu at h ⊢;obtain⟨J,H⟩:=E om om;refine⟨?_,fun i hi A B=>?_⟩
  ·split
   ·rename_i A
    rw[if_pos A]at h;split
    ·rename_i B;rw[if_pos B]at h;omega
    ·omega
   ·omega
  ·by_cases e:i=n
   ·subst e;rw[if_pos A,if_pos B]at h;omega
   ·exact H i om A B
theorem turned_high {pat:W32}(I:n<=32)(h:100<=qQu q b pat n):∃ i,i<n/\hitP b pat i/\q<2/\b+i<512:=by
 induction n with
 | zero=>exact absurd h (by unfold qQu;omega)
 | succ n E =>
  by_cases B:hitP b pat n/\q<2/\b+n<512
  ·exact⟨n,om,B⟩
  ·by_cases H:100<=qQu q b pat n
   ·obtain⟨i,hi,h⟩:=E om H
    exact⟨i,om,h⟩
   ·have J:=(turned_low (q:=q) (b:=b) (pat:=pat) (n:=n) om om).1
    unfold qQu at h
    by_cases A:hitP b pat n
    ·rw[if_pos A,if_neg fun c=>B ⟨A,c⟩]at h;omega
    ·rw[if_neg A]at h;omega
end Aud
section
namespace Aud
theorem pgB_bit (im:Bs)(p:Nat)(hi:i<2048):bitAt (pgB im p) i=bitAt im (2048*p+i):=by
 unfold pgB;rw[qZg om,bitAt_drop,show 8*(256*p)+i=2048*p+i by omega]
theorem bs_ext (A:x.length=y.length)(h:∀ i,i<8*x.length->bitAt x i=bitAt y i):x=y:=by
 refine List.ext_getElem A fun i B E=>xS fun j H=>?_;have h:=h (8*i+j) om;unfold bitAt at h;rw[show (8*i+j) / 8=i by omega,show (8*i+j) % 8=j by omega,gDq,gDq,xE B,xE E]at h;exact h
theorem pgB_len' {a b:Bs}(h:a.length=b.length)(p:Nat):(pgB a p).length=(pgB b p).length:=by
 unfold pgB;rw[lTk,lDr,lTk,lDr,h]
section
variable {im:Bs} {q b:Nat} {pat:W32}
theorem qVi (A:256*q+256<=im.length)(E:p≠q):pgB (qQn im q b pat 32) p=pgB im p:=by
 have B:=qZr im q b pat 32;refine bs_ext (pgB_len' B p) fun i hi=>?_;have:(pgB (qQn im q b pat 32) p).length<=256:=by unfold pgB;rw[lTk];omega
 rw[pgB_bit _ _ om,pgB_bit _ _ om,burst_at A,decide_eq_false,jN];rintro⟨H,I,J,_⟩;omega
theorem bpg_at (A:256*q+256<=im.length)(hi:i<2048):bitAt (pgB (qQn im q b pat 32) q) i=(bitAt (pgB im q) i != decide (b<=i/\i<b+32/\hitP b pat (i - b))):=by
 rw[pgB_bit _ _ hi,pgB_bit _ _ hi,burst_at A]
 congr 1
 rw[show 2048*q+i - (2048*q+b)=i - b by omega];exact decide_eq_decide.2 ⟨fun h=>⟨om,om,h.2.2⟩,fun h=>⟨om,om,h.2.2⟩⟩
theorem bpg_out (A:256*q+256<=im.length)(hi:i<2048)(B:i<b∨b+32<=i):bitAt (pgB (qQn im q b pat 32) q) i=bitAt (pgB im q) i:=by
 rw[bpg_at A hi,decide_eq_false om,jN]
theorem bpg_hit (B:256*q+256<=im.length){j:Nat}(E:j<32)(A:hitP b pat j):bitAt (pgB (qQn im q b pat 32) q) (b+j)≠bitAt (pgB im q) (b+j):=by
 have:=A.1;rw[bpg_at B this,decide_eq_true ⟨om,om,by rw[show b+j - b=j by omega];exact A⟩]
 cases bitAt (pgB im q) (b+j) <;> simp
theorem burst_nil (h:qQu q b pat 32=0):qQn im q b pat 32=im:=by
 have A:=turned_zero h
 have:∀ n,n<=32->qQn im q b pat n=im:=by
  intro n
  induction n with
  | zero=>intro _;rfl
  | succ n B=>intro E;unfold qQn;rw[if_neg (A n om),B om]
 exact this 32 (xC _)
theorem clean_one {s:Sup}(h:lookP im=.ok (s,[])):openP im=.ok s/\s.ok/\im.length=256*s.pages/\qXx im s.mark=[]/\(∀ p,p<s.mark->qXv im p=0)/\wholeP s.width (pgF im s.mark) (chF (pgF im s.mark) s.mark) s.mark s.head=.ok ():=by
 obtain⟨_,A⟩:=look_sup h;rw[qVp]at h
 cases E:openP im with
 | error e=>rw[E]at h;cases h
 | ok s' =>
 rw[E]at h;simp only[Except.ok.injEq,Prod.mk.injEq]at h;obtain⟨rfl,I⟩:=h
 have B:qXx im s'.mark=[]:=by
  unfold qJi at A;split at A
  ·rename_i e;exact e
  ·exact A.symm
 obtain⟨J,L⟩:=open_ok E;refine⟨rfl,J,L,B,fun p M=>?_,?_⟩
 ·by_cases H:qXv im p=0
  ·exact H
  ·have:(p,qXv im p) ∈ qXx im s'.mark:=List.mem_filterMap.2 ⟨p,List.mem_range.2 M,if_neg H⟩
   rw[B]at this;cases this
 ·unfold qJi at A
  rw[if_pos B]at A;split at A
  ·rename_i x N;rw[N]
  ·cases A
theorem open_ch {s:Sup}(h:openP im=.ok s):im.length % 256=0/\3<=im.length / 256/\im.length / 256<=4096/\qXq (pgB im 0) (pgB im 1)=.ok s/\s.pages=im.length / 256:=by
 unfold openP at h;split at h
 ·cases h
 ·split at h
  ·cases h
  ·split at h
   ·cases h
   ·rename_i s' A
    split at h
    ·cases h
    ·cases h;exact⟨om,om,om,A,om⟩
theorem open_same {s:Sup}(h:openP im=.ok s)(A:im'.length=im.length)(B:qXq (pgB im' 0) (pgB im' 1)=qXq (pgB im 0) (pgB im 1)):openP im'=.ok s:=by
 obtain⟨H,I,J,E,L⟩:=open_ch h;unfold openP;rw[A,if_neg om,if_neg om,B,E];show (if s.pages≠im.length / 256 then _ else _)=_;rw[if_neg om]
theorem found1_only {k:Nat}{e:Int}(E:e≠0)(H:q<k)(h:∀ p,p<k->qXv im' p=if p=q then e else 0):qXx im' k=[(q,e)]:=by
 have:∀ n,n<=k->qXx im' n=if q<n then [(q,e)] else []:=by
  intro n
  induction n with
  | zero=>intro _;rfl
  | succ n I =>
   intro J;rw[qJo,I om,h n om]
   by_cases A:n=q
   ·subst A;rw[if_neg om,if_pos rfl,if_neg E,if_pos om];rfl
   ·rw[if_neg A,if_pos rfl,List.append_nil]
    by_cases B:q<n
    ·rw[if_pos B,if_pos om]
    ·rw[if_neg B,if_neg om]
 rw[this k (xC _),if_pos H]
theorem wrong_eq (h:pgB im' p=pgB im p):qXv im' p=qXv im p:=by unfold qXv;rw[h]
theorem pgF_eq (h:pgB im' p=pgB im p):pgF im' m p=pgF im m p:=by unfold pgF;rw[h]
theorem found1_eq {k:Nat}(h:∀ p,p<k->pgB im' p=pgB im p):qXx im' k=qXx im k:=by
 induction k with
 | zero=>rfl
 | succ k A=>rw[qJo,qJo,A fun p B=>h p om,wrong_eq (h k om)]
theorem burst_none {s:Sup}(h:lookP im=.ok (s,[]))(R:q<s.pages)(I:qQu q b pat 32=0∨s.mark<=q):lookP (qQn im q b pat 32)=.ok (s,[])/\pgF (qQn im q b pat 32) s.mark=pgF im s.mark:=by
 by_cases H:qQu q b pat 32=0
 ·rw[burst_nil H];exact⟨h,rfl⟩
 ·have T:s.mark<=q:=I.resolve_left H
  obtain⟨J,L,U,M,_,N⟩:=clean_one h;have O:=L.2.2.2.1.1;have B:256*q+256<=im.length:=om
  have A:∀ p,p<s.mark->pgB (qQn im q b pat 32) p=pgB im p:=fun p A=>qVi B om
  have hpg:pgF (qQn im q b pat 32) s.mark=pgF im s.mark:=funext fun p=>by
   by_cases E:p<s.mark
   ·exact pgF_eq (A p E)
   ·rw[pgF_none om,pgF_none om]
  refine⟨?_,hpg⟩;rw[qVp,open_same J (qZr ..) (by rw[A 0 om,A 1 om])];show Except.ok (s,qJi (qQn im q b pat 32) s)=_;unfold qJi;rw[found1_eq A,M,if_pos rfl,hpg,N]
theorem unp_whole (h:qXw raw=false):qZb p raw=.error 52:=by
 unfold qZb unpP;rw[if_pos h]
theorem alone_whole {g:Pg}(h:qZb p raw=.ok g):qXw raw=true:=by
 by_cases A:qXw raw=false
 ·rw[unp_whole A]at h;cases h
 ·revert A;cases qXw raw <;> simp
theorem burst_page {s:Sup}(h:lookP im=.ok (s,[]))(O:2<=q)(J:q<s.mark)(U:qQu q b pat 32≠0):lookP (qQn im q b pat 32)=.ok (s,[(q,52)])/\(∃ g,pgF im s.mark q=some g)/\∀ p,pgF (qQn im q b pat 32) s.mark p=if p=q then none else pgF im s.mark p:=by
 obtain⟨L,R,V,W,M,hw⟩:=clean_one h;have Y:=R.2.2.2.1;have A:256*q+256<=im.length:=om
 obtain⟨j,Z,hh⟩:=turned_hit U;obtain⟨g,T,_,_⟩:=one_of R V W O J;obtain⟨_,_,ha⟩:=pgF_some T;have B:=pgB_len (im:=im) (p:=q) om;have E:(pgB (qQn im q b pat 32) q).length=256:=by rw[pgB_len' (qZr ..)];exact B
 have H:qXw (pgB (qQn im q b pat 32) q)=false:=by
  by_cases I:qXw (pgB (qQn im q b pat 32) q)=false
  ·exact I
  ·have I:qXw (pgB (qQn im q b pat 32) q)=true:=by revert I;cases qXw (pgB (qQn im q b pat 32) q) <;> simp
   have e:=burst_whole (a:=b) (by rw[B,E]) om I (alone_whole ha) fun i hi L=>bpg_out A om L;exact absurd (by rw[e]) (bpg_hit A Z hh)
 have N:∀ p,p<s.mark->qXv (qQn im q b pat 32) p=if p=q then 52 else 0:=fun p hp=>by
  by_cases e:p=q
  ·subst e;rw[if_pos rfl];unfold qXv;rw[if_neg om,unp_whole H]
  ·rw[if_neg e,wrong_eq (qVi A e),M p hp]
 refine⟨?_,⟨g,T⟩,fun p=>?_⟩
 ·rw[qVp,open_same L (qZr ..) (by rw[qVi A om,qVi A om])]
  show Except.ok (s,qJi (qQn im q b pat 32) s)=_;unfold qJi;rw[found1_only x9 J N,if_neg sm]
 ·by_cases e:p=q
  ·subst e;rw[if_pos rfl];unfold pgF;rw[if_pos ⟨O,J⟩,unp_whole H]
  ·rw[if_neg e,pgF_eq (qVi A e)]
theorem take_take' (l:Bs)(k:Nat)(h:k<=n):(l.take n).take k=l.take k:=by rw[List.take_take,Nat.min_eq_left h]
theorem supP_take (h:x.take 64=y.take 64):supP x=supP y:=by
 have H:∀ k,k<=64->x.take k=y.take k:=fun k B=>by rw[<- take_take' x k B,<- take_take' y k B,h]
 have A:∀ a k,a+k<=64->(x.drop a).take k=(y.drop a).take k:=fun a k B=>by
  rw[List.take_drop,List.take_drop,H (a+k) B]
 have I:∀ k,k<64->x.getD k 0=y.getD k 0:=fun k B=>by
  have:=H (k+1) om
  have e:∀ l:Bs,l.getD k 0=(l.take (k+1)).getD k 0:=fun l=>by
   rw[gDq,gDq,xO,if_pos om]
  rw[e x,e y,this]
 have J:supF x ↔ supF y:=by unfold supF;rw[H 4 om,A 5 3 om,A 28 32 om,I 15 om]
 have L:supR x=supR y:=by unfold supR;rw[I 4 om,A 8 7 om,A 16 4 om,A 24 4 om,A 20 4 om]
 unfold supP;rw[h,L]
 by_cases E:qXw (y.take 64)=false
 ·rw[if_pos E,if_pos E]
 rw[if_neg E,if_neg E]
 by_cases c:supF y/\(supR y).ok
 ·rw[if_pos c,if_pos ⟨J.2 c.1,c.2⟩]
 ·rw[if_neg c,if_neg fun h=>c ⟨J.1 h.1,h.2⟩]
theorem choose_oks {s:Sup}(h:qXq x y=.ok s):(∃ a,supP x=.ok a)/\∃ c,supP y=.ok c:=by
 unfold qXq at h;split at h
 ·rename_i a c A B;exact⟨⟨a,A⟩,c,B⟩
 ·split at h <;> cases h
theorem choose_take {x y x' y':Bs}{s:Sup}(h:qXq x y=.ok s)(E:x'.take 64=x.take 64)(H:y'.take 64=y.take 64):qXq x' y'=.ok s:=by
 obtain⟨⟨a,A⟩,c,B⟩:=choose_oks h;unfold qXq at h ⊢;rw[A,B]at h;rw[supP_take E,supP_take H,A,B];exact h
theorem burst_slot {s:Sup}(h:lookP im=.ok (s,[]))(N:q<2)(ht:qQu q b pat 32≠0)(I:qQu q b pat 32<100):lookP (qQn im q b pat 32)=.ok (s,[(q,53)]):=by
 obtain⟨U,hs,hl,hf,J,hw⟩:=clean_one h;obtain⟨_,_,_,L,_⟩:=open_ch U;have a0:=hs.2.2.2.1;have B:256*q+256<=im.length:=om
 obtain⟨j,V,W⟩:=turned_hit ht;obtain⟨_,M⟩:=turned_low (xC _) I;have a3:512<=b+j:=by have:=M j V W;omega
 have E:=pgB_len (im:=im) (p:=q) om;have A:(pgB (qQn im q b pat 32) q).length=256:=by rw[pgB_len' (qZr ..)];exact E
 have O:(pgB (qQn im q b pat 32) q).take 64=(pgB im q).take 64:=by
  refine bs_ext (by rw[lTk,lTk,E,A]) fun i hi=>?_;rw[lTk,A]at hi;rw[qZg om,qZg om,bpg_at B om,decide_eq_false,jN];rintro⟨h1,a4,h3⟩;exact M (i - b) om h3 ⟨N,om⟩
 have Y:zer ((pgB im q).drop 64)=true:=by
  have:=J q om;unfold qXv at this;rw[if_pos N]at this
  by_cases H:zer ((pgB im q).drop 64)=false
  ·rw[if_pos H]at this;cases this
  ·revert H;cases zer ((pgB im q).drop 64) <;> simp
 have R:zer ((pgB (qQn im q b pat 32) q).drop 64)=false:=by
  by_cases H:zer ((pgB (qQn im q b pat 32) q).drop 64)=true
  ·rw[zer_iff,lDr,A]at H
   rw[zer_iff,lDr,E]at Y
   have e1:bitAt (pgB (qQn im q b pat 32) q) (b+j)=bitAt (pgB im q) (b+j):=by
    have e:∀ l:Bs,bitAt l (b+j)=bitAt (l.drop 64) (b+j - 512):=fun l=>by rw[bitAt_drop];congr 1;omega
    rw[e,e,H,Y]
   exact absurd e1 (bpg_hit B V W)
  ·revert H;cases zer ((pgB (qQn im q b pat 32) q).drop 64) <;> simp
 have T:∀ p,p<s.mark->qXv (qQn im q b pat 32) p=if p=q then 53 else 0:=fun p hp=>by
  by_cases e:p=q
  ·subst e;rw[if_pos rfl];unfold qXv;rw[if_pos N,if_pos R]
  ·rw[if_neg e,wrong_eq (qVi B e),J p hp]
 have Z:∀ p,(pgB (qQn im q b pat 32) p).take 64=(pgB im p).take 64:=fun p=>by
  by_cases e:p=q
  ·subst e;exact O
  ·rw[qVi B e]
 rw[qVp,open_same U (qZr ..) (by rw[choose_take L (Z 0) (Z 1),L])];show Except.ok (s,qJi (qQn im q b pat 32) s)=_;unfold qJi;rw[found1_only x9 om T,if_neg sm]
theorem supP_parts {s:Sup}(h:supP x=.ok s):qXw (x.take 64)=true/\x.take 4=[76,68,71,49]/\2<=le ((x.drop 16).take 4):=by
 unfold supP at h;split at h
 ·cases h
 ·rename_i B
  split at h
  ·rename_i A
   have E:=A.2.2.2.2.1.1;exact⟨by revert B;cases qXw (x.take 64) <;> simp,A.1.1,E⟩
  ·cases h
theorem le_zero:∀ n,le (zK n 0)=0
 | 0=>rfl
 | n+1=>by rw[List.replicate_succ];show (0:Byte).toNat+256*le _=0;rw[le_zero n];rfl
theorem burst_super {s:Sup}(h:lookP im=.ok (s,[]))(h2:q<2)(ht:100<=qQu q b pat 32):lookP (qQn im q b pat 32)=.error 4:=by
 obtain⟨L,hs,hl,hf,a3,hw⟩:=clean_one h;obtain⟨l1,l2,l3,T,l5⟩:=open_ch L;have a4:=hs.2.2.2.1;have M:256*q+256<=im.length:=om
 obtain⟨j,hj,hh,_,a5⟩:=turned_high (xC _) ht;have I:=pgB_len (im:=im) (p:=q) om;have B:(pgB (qQn im q b pat 32) q).length=256:=by rw[pgB_len' (qZr ..)];exact I
 have J:∀ i,i<512->i<b∨b+32<=i->bitAt ((pgB (qQn im q b pat 32) q).take 64) i=bitAt ((pgB im q).take 64) i:=fun i hi L=>by
  rw[qZg om,qZg om];exact bpg_out M om L
 have hne:(pgB (qQn im q b pat 32) q).take 64≠(pgB im q).take 64:=fun e=>by
  have:=bpg_hit M hj hh;rw[<- qZg (b:=pgB (qQn im q b pat 32) q) (n:=64) om,e,qZg om]at this;exact this rfl
 obtain⟨⟨sa,ha⟩,sb,Y⟩:=choose_oks T
 have N:∃ Z,supP (pgB im q)=.ok Z:=by
  rcases (show q=0∨q=1 by omega) with rfl | rfl
  ·exact⟨sa,ha⟩
  ·exact⟨sb,Y⟩
 obtain⟨Z,N⟩:=N;obtain⟨p1,R,p3⟩:=supP_parts N;have H:∀ {l:Bs},l.length=256->(l.take 64).length=64:=fun h=>by rw[lTk,h];rfl
 have U:qXw ((pgB (qQn im q b pat 32) q).take 64)=false:=by
  by_cases A:qXw ((pgB (qQn im q b pat 32) q).take 64)=false
  ·exact A
  ·have A:qXw ((pgB (qQn im q b pat 32) q).take 64)=true:=by revert A;cases qXw ((pgB (qQn im q b pat 32) q).take 64) <;> simp
   exact absurd (burst_whole (a:=b) (by rw[H I,H B]) (by rw[H B];decide) A p1 fun i hi L=>J i (by rw[H B]at hi;omega) L) hne
 have O:supP (pgB (qQn im q b pat 32) q)=.error 52:=by unfold supP;rw[if_pos U]
 have V:zer ((pgB (qQn im q b pat 32) q).take 64)=false:=by
  by_cases A:zer ((pgB (qQn im q b pat 32) q).take 64)=false
  ·exact A
  ·have A:zer ((pgB (qQn im q b pat 32) q).take 64)=true:=by revert A;cases zer ((pgB (qQn im q b pat 32) q).take 64) <;> simp
   rw[zer_iff,H B]at A
   have hz:∀ i,i<512->i<b∨b+32<=i->bitAt (pgB im q) i=false:=fun i hi L=>by
    rw[<- qZg (b:=pgB im q) (n:=64) om,<- J i hi L,A];unfold bitAt;rw[gDq]
    by_cases hx:i / 8<64
    ·rw[jC,if_pos hx];simp
    ·omega
   have b0:bitAt (pgB im q) 6=true:=by
    rw[<- qZg (n:=4) om,R];decide
   have a0:b<=6:=by
    by_cases A:b<=6
    ·exact A
    ·rw[hz 6 om (.inl om)]at b0;cases b0
   have hm:((pgB im q).drop 16).take 4=zK 4 0:=by
    refine bs_ext (by rw[lTk,lDr,I];rfl) fun i hi=>?_;rw[lTk,lDr,I]at hi;rw[qZg om,bitAt_drop,hz _ om (.inr om)];unfold bitAt;rw[gDq,jC,if_pos om];simp
   rw[hm,le_zero]at p3;omega
 have E:blankP (pgB (qQn im q b pat 32) 0) (pgB (qQn im q b pat 32) 1)=false:=by
  unfold blankP
  rcases (show q=0∨q=1 by omega) with rfl | rfl
  ·have h1:zer ((pgB (qQn im 0 b pat 32) 1).take 64)=false:=by
    rw[qVi M om]
    by_cases A:zer ((pgB im 1).take 64)=false
    ·exact A
    ·have A:zer ((pgB im 1).take 64)=true:=by revert A;cases zer ((pgB im 1).take 64) <;> simp
     rw[zer_iff]at A;have R:=(supP_parts Y).2.1;rw[<- take_take' (pgB im 1) 4 (show 4<=64 by omega),A,List.take_replicate,lTk,pgB_len om]at R;cases R
   rw[h1,jR]
  ·rw[V,jR]
 have W:qXq (pgB (qQn im q b pat 32) 0) (pgB (qQn im q b pat 32) 1)=.error 4:=by
  unfold qXq
  rcases (show q=0∨q=1 by omega) with rfl | rfl
  ·rw[O]
   show (if blankP _ _=true then _ else _)=_;rw[E];rfl
  ·rw[O]
   cases supP (pgB (qQn im 1 b pat 32) 0) <;> (show (if blankP _ _=true then _ else _)=_) <;> rw[E] <;> rfl
 rw[qVp];unfold openP;rw[qZr,if_neg om,if_neg om,W]
end
end Aud
end
end Go.V
