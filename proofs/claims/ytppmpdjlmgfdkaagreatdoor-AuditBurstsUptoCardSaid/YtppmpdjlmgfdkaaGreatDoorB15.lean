/- Helpers. -/
import Derived.Test.YtppmpdjlmgfdkaaGreatDoorB14
import Derived.Test.YtppmpdjlmgfdkaaGreatDoorB08
set_option linter.all false
set_option maxRecDepth 100000
set_option maxHeartbeats 8000000
open Array renaming length_toList->zQ,toList_modify->y7,getElem?_toList->xK,toList_push->y8
open List renaming map_cons->qS,getElem?_toArray->xI,set_append_right->j7,mem_singleton->y9,flatten_cons->zA,getElem?_append_right->z4,getElem?_append_left->zR,mem_cons->vQ,mem_cons_of_mem->zY,mem_map_of_mem->vX,mem_cons_self->zD
open Nat renaming zero_add->jY,add_mul->xL
open Option renaming bind_some->qV,map_some->qK
namespace Go.V
variable {ts:Array TypeId} {xs:Array Value} {ev:Ev} {K:Ev->World->Prop} {rest:List (Nat × Value)} {bad:List Nat} {a r vs:List Value} {b by' cap d i j m mb n o:Nat} {ps:Nat->Option (Nat × Nat)} {F:Nat->Prop} {et kt t:TypeId} {v x z:Value} {w w':World}
section
variable {P:Program} {ops:Array Oper} {X:Nat->Bool}
theorem qQx:(false == true)=false:=rfl
theorem qZj:(true == false)=false:=rfl
theorem outK_mono {r:Out}{K B:Value->World->Prop}(A:∀ v w',K v w'->B v w')(h:outK P r w K):outK P r w B:=by
 unfold outK at *;split
 ·exact A _ _ h
 ·exact h.elim
 ·exact⟨h.1,h.2.mono A⟩
 ·obtain⟨v,w',E,H⟩:=h;exact⟨v,w',E,A _ _ H⟩
theorem denL_mono {K E:Ev->World->Prop}(A:∀ ev w,K ev w->E ev w):∀ (l:List Oper) {ev:Ev} {w:World},denL P ops K l ev w->denL P ops E l ev w
 | [],_,_,h=>A _ _ h
 | o::r,ev,w,h=>by
  simp only[denL]at h ⊢;split
  ·rename_i B
   rw[if_pos B]at h;exact outK_mono (fun v w' H=>denL_mono A r H) h
  ·rename_i B
   rw[if_neg B]at h;exact denL_mono A r h
theorem CodeD_mono {c:Code}{Q B:Post}(h:∀ e ev w,Q e ev w->B e ev w)(H:CodeD P n c Q ev w):CodeD P n c B ev w :=
 fun a E I J=>wp_mono (H a E I J) fun _ _ _ A=>⟨A.1,A.2.1,h _ _ _ A.2.2⟩
theorem qXg:∀ (c:Code) {Q L:Post},(∀ e ev w,Q e ev w->L e ev w)->∀ {ev:Ev} {w:World},den P n bad c Q ev w->den P n bad c L ev w:=by
 intro c
 induction c with
 | skip=>exact fun h ev w H=>h _ _ _ H
 | label l=>exact fun h ev w H=>h _ _ _ H
 | seq x y B E =>
  intro Q L h ev w H;refine B (fun e ev w A=>?_) (show den P n bad x (thenQ (den P n bad y Q) Q) ev w from H)
  cases e with
  | normal=>exact E h A
  | _=>exact h _ _ _ A
 | cond c x y B E =>
  intro Q L h ev w H;simp only[den]at H ⊢;split
  ·rename_i b I
   rw[I]at H;simp only at H;split
   ·rename_i J
    rw[if_pos J]at H;exact B h H
   ·rename_i J
    rw[if_neg J]at H;exact E h H
  ·rename_i M
   split at H
   ·rename_i b I;exact absurd I (M b)
   ·exact H
 | block id c O =>
  intro Q L h ev w H;refine O (fun e ev w A=>?_) (show den P n bad c (blockQ id Q) ev w from H)
  cases e with
  | exit i =>
   simp only[blockQ]at A ⊢;split
   ·rename_i hi;rw[if_pos hi]at A;exact h _ _ _ A
   ·rename_i hi;rw[if_neg hi]at A;exact h _ _ _ A
  | _=>exact h _ _ _ A
 | exit id=>exact fun h ev w H=>h _ _ _ H
 | ret=>exact fun h ev w H=>h _ _ _ H
 | region id ops d =>
  intro Q L h ev w H;simp only[den]at H ⊢;split
  ·rename_i N
   rw[if_pos N]at H;split
   ·rename_i I
    rw[if_pos I]at H;exact CodeD_mono h H
   ·rename_i I
    rw[if_neg I]at H;exact denL_mono (h _) _ H
  ·rename_i N
   rw[if_neg N]at H;exact denL_mono (h _) _ H
 | loop c O=>exact fun h ev w H R=>CodeD_mono h (H R)
 | _=>exact fun h ev w H=>CodeD_mono h H
def holdL (K:Ev->World->Prop)(ev:Ev)(w:World)(_:Unit):Prop:=K ev w
theorem holdL_only {u A:Unit}(h:u=A):holdL K ev w u=holdL K ev w A:=by rw[h]
attribute [congr] holdL_only
theorem qKe {u:Unit}(h:K ev w):holdL K ev w u:=h
def thenH (K:Ev->World->Prop)(Q:Post):Post:=fun e=>match e with | .normal=>fun ev w=>holdL K ev w () | e=>Q e
theorem thenH_normal (K:Ev->World->Prop)(Q:Post)(ev:Ev)(w:World):thenH K Q .normal ev w=holdL K ev w ():=rfl
theorem thenH_ret (K:Ev->World->Prop)(Q:Post):thenH K Q .ret=Q .ret:=rfl
theorem thenH_exit (K:Ev->World->Prop)(Q:Post)(i:Nat):thenH K Q (.exit i)=Q (.exit i):=rfl
def headC:Nat->Code->Code
 | 0,_=>.skip
 | k+1,.seq x y=>.seq x (headC k y)
 | _,c=>c
def tailC:Nat->Code->Code
 | 0,c=>c
 | k+1,.seq _ y=>tailC k y
 | _,_=>.skip
theorem den_cut:∀ (k:Nat) {c:Code} {Q:Post} {ev:Ev} {w:World},den P n bad (headC k c) (thenH (den P n bad (tailC k c) Q) Q) ev w->den P n bad c Q ev w:=by
 intro k
 induction k with
 | zero=>intro c Q ev w h;exact h
 | succ k B =>
  intro c Q ev w h
  cases c with
  | seq x y =>
   refine qXg x (fun e ev w A=>?_) (show den P n bad x (thenQ (den P n bad (headC k y) (thenH (den P n bad (tailC k y) Q) Q)) (thenH (den P n bad (tailC k y) Q) Q)) ev w from h)
   cases e with
   | normal=>exact B A
   | _=>exact A
  | _ =>
   refine qXg _ (fun e ev w A=>?_) h
   cases e with
   | normal=>exact A
   | _=>exact A
theorem qZk {x y:Code}{Q:Post}(R:Ev->World->Prop)(B:den P n bad x (thenQ R Q) ev w)(E:∀ ev w,R ev w->den P n bad y Q ev w):den P n bad (.seq x y) Q ev w :=
 qXg x (fun e ev w A=>by
  cases e with
  | normal=>exact E _ _ A
  | _=>exact A) B
theorem headC_seq (k:Nat)(x y:Code):headC (k+1) (.seq x y)=.seq x (headC k y):=rfl
theorem headC_zero (c:Code):headC 0 c=.skip:=rfl
theorem den_only {c c':Code}{Q:Post}(h:c=c'):den P n bad c Q ev w=den P n bad c' Q ev w:=by rw[h]
attribute [congr] den_only
attribute [go_sem] thenH_normal thenH_ret thenH_exit headC_seq headC_zero
theorem app_freshX {w0 w:World}{e sz by':Nat}(N:AppT P ts e sz by' z){M:List Value}(O:Nw w0 w e sz v n M)
  (I:xs.size=m*sz) (A:xs.toList.all one=true) (B:0<sz)
  (J:∀ cap,n<=cap->cap<n+m->Builtin.nextslicecap (n+m) cap*by'<=2 ^ 48) (E:n+m<=9223372036854775807) (f:w0.heap.size<=w.heap.size) :
  ∃ H w',(Builtin.append_ ts 0 #[v,.slice (some ⟨w.heap.size,0,none⟩) m m]).run P (w.alloc (.cells xs e))=.ok H w'/\Nw w0 w' e sz H (n+m) (M++xs.toList)/\Fr (fun b=>qQc v=some b) w w' /\
   ∀ b,qQc H=some b->qQc v=some b∨w.heap.size<=b:=by
 have L:No w (w.alloc (.cells xs e)):=(Fr.refl _ _).alloc _
 have R:Rd (w.alloc (.cells xs e)) sz (.slice (some ⟨w.heap.size,0,none⟩) m m) m xs.toList :=
  ⟨by rw[zQ,I],_,_,rfl,Nat.le_refl _,fun _=>⟨_,_,rfl,fun i hi=>by rw[qXe (qQb _ _),jY,xK]⟩⟩
 obtain⟨H,w',T,U,V,W⟩:=app_nw N (O.fr0 L) R A B J E (by have:=L.size;omega);have Y:Fr (fun b=>qQc v=some b) w w':=(L.mono fun _ _ h=>h.elim).trans V;exact⟨H,w',T,U,Y,fun b Z=>(W b Z).imp id fun h=>by rw[qQf]at h;omega⟩
end
section
variable {P:Program}
structure KeyT (P:Program) (kt:TypeId) {κ:Type} [DecidableEq κ] (enc:κ->Value) (ok:κ->Prop):Prop where
 eq:∀ a b,ok a->ok b->eqV P Op.maxDepth kt (enc a) (enc b)=some (decide (a=b))
 ck:∀ a,ok a->ckV P 10000 kt (enc a)=true
 same:∀ a,ok a->Instr.sameBits 10000 (enc a) (enc a)=true
section
variable {κ:Type} [DecidableEq κ]
def findM:List (κ × Value)->κ->Option Value
 | [],_=>none
 | p::r,k=>if p.1=k then some p.2 else findM r k
def insM:List (κ × Value)->κ->Value->List (κ × Value)
 | [],k,v=>[(k,v)]
 | p::r,k,v=>if p.1=k then (k,v)::r else p::insM r k v
theorem qVs (l:List (κ × Value))(k:κ)(v:Value)(B:κ):findM (insM l k v) B=if k=B then some v else findM l B:=by
 induction l with
 | nil=>rfl
 | cons p r E =>
  unfold insM
  by_cases h:p.1=k
  ·rw[if_pos h]
   unfold findM
   by_cases A:k=B
   ·rw[if_pos A,if_pos A]
   ·rw[if_neg A,if_neg A,if_neg (by rw[h];exact A)]
  ·rw[if_neg h]
   unfold findM
   by_cases A:p.1=B
   ·rw[if_pos A,if_pos A,if_neg (by rw[<- A];exact fun e=>h e.symm)]
   ·rw[if_neg A,if_neg A,E]
theorem insM_keys (l:List (κ × Value))(k:κ)(v:Value):(insM l k v).map (·.1)=if k ∈ l.map (·.1) then l.map (·.1) else l.map (·.1)++[k]:=by
 induction l with
 | nil=>rfl
 | cons p r B =>
  unfold insM
  by_cases h:p.1=k
  ·rw[if_pos h,if_pos (by simp[h])];simp[h]
  ·rw[if_neg h,qS,B,qS]
   by_cases A:k ∈ r.map (·.1)
   ·rw[if_pos A,if_pos (zY _ A)]
   ·rw[if_neg A,if_neg (by simp only[vQ,not_or];exact⟨fun e=>h e.symm,A⟩)];rfl
theorem insM_nodup {l:List (κ × Value)}(h:(l.map (·.1)).Nodup)(k:κ)(v:Value):((insM l k v).map (·.1)).Nodup:=by
 rw[insM_keys];split
 ·exact h
 ·rename_i B
  exact List.nodup_append.2 ⟨h,sm,fun a E b A=>by simp only[y9]at A;subst A;exact fun e=>B (e ▸ E)⟩
theorem findM_none {l:List (κ × Value)}{k:κ}:findM l k=none ↔ k ∉ l.map (·.1):=by
 induction l with
 | nil=>simp[findM]
 | cons p r B =>
  unfold findM
  by_cases h:p.1=k
  ·rw[if_pos h];simp[h]
  ·rw[if_neg h,B,qS,vQ,not_or]
   exact⟨fun A=>⟨fun e=>h e.symm,A⟩,fun A=>A.2⟩
theorem insM_new {l:List (κ × Value)}{k:κ}(h:findM l k=none):insM l k v=l++[(k,v)]:=by
 induction l with
 | nil=>rfl
 | cons p r B =>
  unfold findM at h;unfold insM
  by_cases A:p.1=k
  ·rw[if_pos A]at h;cases h
  ·rw[if_neg A]at h;rw[if_neg A,B h];rfl
theorem findM_mem {l:List (κ × Value)}(h:(l.map (·.1)).Nodup){k:κ}:findM l k=some v ↔ (k,v) ∈ l:=by
 induction l with
 | nil=>simp[findM]
 | cons p r B =>
  rw[qS,List.nodup_cons]at h;unfold findM
  by_cases A:p.1=k
  ·rw[if_pos A]
   constructor
   ·intro e;cases e;rw[<- A];exact zD ..
   ·intro e
    rcases List.mem_cons.1 e with e | e
    ·rw[<- e]
    ·exact absurd (List.mem_map.2 ⟨(k,v),e,A.symm⟩) h.1
  ·rw[if_neg A,B h.2,vQ]
   exact⟨.inr,fun e=>e.resolve_left fun e=>A (by rw[<- e])⟩
variable {kt:TypeId} {enc:κ->Value} {ok:κ->Prop}
def Mp (enc:κ->Value)(ok:κ->Prop)(w:World)(mb:Nat)(l:List (κ × Value)):Prop :=
 ∃ A c,w.heap[mb]?=some (.map A c)/\A.toList.map (fun e=>(e.key,e.val))=l.map (fun p=>(enc p.1,p.2))/\(∀ p ∈ l,ok p.1)/\(l.map (·.1)).Nodup/\(∀ e ∈ A.toList,e.born<c)/\(A.toList.map (·.born)).Nodup
theorem born_modify (g:MapEntry->MapEntry)(A:∀ e,(g e).born=e.born):∀ (l:List MapEntry) (j:Nat),(l.modify j g).map (·.born)=l.map (·.born)
 | [],j=>by cases j <;> rfl
 | e::r,0=>by simp[A]
 | e::r,j+1=>by simp[born_modify g A r j]
theorem KeyT.find (H:KeyT P kt enc ok){k:κ}(I:ok k):∀ (A:List MapEntry) (l:List (κ × Value)) (i:Nat), A.map (fun e=>(e.key, e.val))=l.map (fun p=>(enc p.1, p.2))->(∀ p ∈ l, ok p.1) ->
  (findM l k=none/\findV P kt (enc k) A i=some none)∨∃ j v,findM l k=some v/\findV P kt (enc k) A i=some (some (i+j,v))/\j<A.length/\(A[j]?.map (·.key))=some (enc k) /\
   ∀ u,((A.modify j fun e=>{ e with key:=enc k,val:=u }).map fun e=>(e.key,e.val))=(insM l k u).map fun p=>(enc p.1,p.2)
 | [],[],_,_,_=>.inl ⟨rfl,rfl⟩
 | [],_::_,_,h,_=>by cases h
 | _::_,[],_,h,_=>by cases h
 | e::A,p::l,i,h,J=>by
  simp only[qS,List.cons.injEq,Prod.mk.injEq]at h;obtain⟨⟨E,L⟩,M⟩:=h;have eq:=H.eq k p.1 I (J p (zD ..));unfold findM
  by_cases B:p.1=k
  ·rw[if_pos B]
   have eq:eqV P Op.maxDepth kt (enc k) (enc p.1)=some true:=by rw[eq];simp[B]
   refine .inr ⟨0,p.2,rfl,?_,sm,?_,fun u=>?_⟩
   ·unfold findV;rw[E,eq,L];rfl
   ·simp[E,B]
   ·unfold insM
    rw[if_pos B];simp[M]
  ·rw[if_neg B]
   have eq:eqV P Op.maxDepth kt (enc k) (enc p.1)=some false:=by rw[eq,decide_eq_false fun e=>B e.symm]
   have N:findV P kt (enc k) (e::A) i=findV P kt (enc k) A (i+1):=by
    conv=>lhs;unfold findV
    rw[E,eq]
   rcases KeyT.find H I A l (i+1) M fun q O=>J q (zY _ O) with ⟨a,b⟩ | ⟨j,v,a,b,c,d,f⟩
   ·exact .inl ⟨a,by rw[N];exact b⟩
   ·refine .inr ⟨j+1,v,a,?_,by simp;omega,?_,fun u=>?_⟩
    ·rw[N,b];congr 3;omega
    ·simpa using d
    ·have:=f u
     unfold insM;rw[if_neg B];simp only[List.modify_succ_cons,qS,this,E,L]
theorem Mp.look (A:KeyT P kt enc ok){l:List (κ × Value)}(h:Mp enc ok w mb l){k:κ}(B:ok k)(E:mapO P t=some (kt, et))(J:zeroO P et=some z) :
  lookO P t w (.map (some mb)) (enc k)=some ((findM l k).getD z,(findM l k).isSome):=by
 obtain⟨L,c,H,M,N,_⟩:=h;have I:=A.ck k B
 rcases A.find B L.toList l 0 M N with ⟨a,b⟩ | ⟨j,v,a,b,_⟩
 ·simp only[lookO,E,qV,mapEs,H,getK,I,if_true,b,J,qK,a,Option.getD_none,Option.isSome_none]
 ·simp only[lookO,E,qV,mapEs,H,getK,I,if_true,b,a,Option.getD_some,Option.isSome_some]
theorem look_nil (A:KeyT P kt enc ok){k:κ}(B:ok k)(E:mapO P t=some (kt, et))(H:zeroO P et=some z) :
  lookO P t w (.map none) (enc k)=some (z,false):=by
 have I:=A.ck k B;simp only[lookO,E,qV,mapEs,getK,I,if_true,findV,H,qK]
theorem Mp.put (M:KeyT P kt enc ok){l:List (κ × Value)}(h:Mp enc ok w mb l){k:κ}(J:ok k)(v:Value) :
  ∃ N,putE P kt w.heap[mb]? (enc k) v=some N/\fzO N=false/\∀ w',w'.heap[mb]?=some N->Mp enc ok w' mb (insM l k v):=by
 obtain⟨L,c,W,Y,O,Z,R,h6⟩:=h;have hc:=M.ck k J
 have E:∀ p ∈ insM l k v,ok p.1:=fun p hp=>by
  have:p.1 ∈ (insM l k v).map (·.1):=vX hp;rw[insM_keys]at this;split at this
  ·obtain⟨q,T,e⟩:=List.mem_map.1 this;rw[<- e];exact O q T
  ·rcases List.mem_append.1 this with h | h
   ·obtain⟨q,T,e⟩:=List.mem_map.1 h;rw[<- e];exact O q T
   ·rw[List.mem_singleton.1 h];exact J
 rcases M.find J L.toList l 0 Y O with ⟨a,b⟩ | ⟨j,u,a,b,hj,H,I⟩
 ·refine⟨.map (L.push { key:=enc k,val:=v,born:=c }) (c+1),by simp only[putE,W,getK,hc,if_true,b,qV],rfl,fun w' U=>⟨_,_,U,?_,E,insM_nodup Z _ _,?_,?_⟩⟩
  ·rw[insM_new a]
   simp[Y]
  ·intro e A
   rw[y8]at A
   rcases List.mem_append.1 A with A | A
   ·have:=R e A;omega
   ·rw[List.mem_singleton.1 A];show c<c+1;omega
  ·rw[y8,List.map_append]
   refine List.nodup_append.2 ⟨h6,sm,fun x hx y hy e=>?_⟩;obtain⟨z,V,rfl⟩:=List.mem_map.1 hx;have:=R z V;simp only[qS,List.map_nil,y9]at hy;omega
 ·have B:((L[0+j]?).map (·.key)).getD (enc k)=enc k:=by
   rw[jY,<- xK,H];rfl
  have hs:=M.same k J;refine⟨.map (L.modify (0+j) fun e=>{ e with key:=enc k,val:=v }) c,?_,rfl,fun w' U=>⟨_,_,U,?_,E,insM_nodup Z _ _,?_,?_⟩⟩
  ·simp only[putE,W,getK,hc,if_true,b,qV,B,hs]
  ·rw[jY,y7];exact I v
  ·intro e A
   rw[y7]at A;have hb:=vX (f:=(·.born)) A;rw[born_modify (fun e=>{ e with key:=enc k,val:=v }) (fun _=>rfl)]at hb;obtain⟨z,V,e'⟩:=List.mem_map.1 hb;have:=R z V;omega
  ·rw[y7,born_modify (fun e=>{ e with key:=enc k,val:=v }) (fun _=>rfl)];exact h6
omit [DecidableEq κ] in
theorem Mp.fr {l:List (κ × Value)}(h:Mp enc ok w mb l)(f:Fr F w w')(A:¬ F mb):Mp enc ok w' mb l:=by
 obtain⟨B,c,E,H⟩:=h;exact⟨B,c,f.at E A,H⟩
omit [DecidableEq κ] in
theorem Mp.fr0 {l:List (κ × Value)}(h:Mp enc ok w mb l)(f:No w w'):Mp enc ok w' mb l:=h.fr f id
omit [DecidableEq κ] in
theorem Mp.new (h:w.heap[mb]?=some (.map #[] 0)):Mp enc ok w mb ([]:List (κ × Value)):=⟨_,_,h,rfl,(fun p A=>by cases A),List.nodup_nil,(fun e B=>by cases B),List.nodup_nil⟩
omit [DecidableEq κ] in
end
theorem keyInt (h:intO P kt=some .i64):KeyT P kt (fun n:Nat=>Value.int .i64 n) (fun _=>True) where
 eq a b _ _:=by
  show eqV P (9999+1) kt _ _=_;unfold eqV;rw[qJe h];simp only[if_true]
  congr 1
  by_cases e:a=b
  ·subst e;simp
  ·simp[e,Int.ofNat_inj]
 ck a _:=by
  show ckV P (9999+1) kt _=true;unfold ckV;rw[qJe h]
 same a _:=by unfold Instr.sameBits;simp
theorem sameAgg {a:Array Value}(h:∀ x ∈ a.toList,Instr.sameBits n x x=true):Instr.sameBits (n+1) (.agg a) (.agg a)=true:=by
 unfold Instr.sameBits;simp only[BEq.rfl,Bool.true_and];rw[List.all_eq_true];intro p A;obtain⟨i,hi,rfl⟩:=List.getElem_of_mem A;simp only[List.getElem_zip];exact h _ (List.getElem_mem _)
theorem same_int (n:Nat)(k:IntKind)(x:Int):Instr.sameBits n (.int k x) (.int k x)=true:=by unfold Instr.sameBits;simp
theorem beq_dec (a b:List Byte):(a == b)=decide (a=b):=by
 by_cases h:a=b
 ·subst h;simp
 ·rw[decide_eq_false h];simpa using h
theorem keyDg {kt e:TypeId}(ha:arrO P kt=some (32,e))(he:intO P e=some .u8)(hs:szO P e=some 1)(hag:aggO P e=some false):KeyT P kt (fun d:List Byte=>dg d) (fun d=>d.length=32) where
 eq a b h1 h2:=by rw[eqm_dg ha he hs hag h1 h2,beq_dec]
 ck a h1:=ckV_dg ha he hs hag h1 9998
 same a _:=sameAgg fun x hx=>by
  simp only[List.mem_map]at hx;obtain⟨y,_,rfl⟩:=hx;exact same_int _ _ _
end
section
variable {P:Program}
def strucO (P : Program) (t : TypeId) : Option (List (Bool × TypeId × Nat)) := match P.underlying t with | some (.struct A) => some (A.toList.map fun f => (f.name == "_", f.type, f.offset)) | _ => none
theorem strucO_und {l : List (Bool × TypeId × Nat)} (h : strucO P t = some l) : ∃ A : Array Field, P.underlying t = some (.struct A) ∧ A.toList.map (fun f => (f.name == "_", f.type, f.offset)) = l := by
 unfold strucO at h;split at h
 ·rename_i A B;cases h;exact⟨A,B,rfl⟩
 ·cases h
theorem eqV_st {l:List (Bool × TypeId × Nat)}(h:strucO P t=some l)(A:P.stoodInHeld t=false)(xs B:Array Value) :
  eqV P (d+1) t (.agg xs) (.agg B)=(l.mapM fun f=>if f.1=true then none else (partO P f.2.1 xs f.2.2).bind fun u=>(partO P f.2.1 B f.2.2).bind fun v=>eqV P d f.2.1 u v).map fun bs=>bs.all id:=by
 obtain⟨H,E,rfl⟩:=strucO_und h
 conv=>lhs;unfold eqV
 rw[E];simp only[A,Bool.false_eq_true,if_false]
 congr 1
 rw[List.mapM_map]
 congr 1
 funext f
 simp only[Function.comp,beq_iff_eq]
theorem ckV_st {l:List (Bool × TypeId × Nat)}(h:strucO P t=some l)(xs:Array Value) :
  ckV P (d+1) t (.agg xs)=l.all fun f=>if f.1=true then true else match partO P f.2.1 xs f.2.2 with | some u=>ckV P d f.2.1 u | none=>false:=by
 obtain⟨E,B,rfl⟩:=strucO_und h
 conv=>lhs;unfold ckV
 rw[B];simp only[List.all_map]
 congr 1
 funext f
 simp only[Function.comp,beq_iff_eq]
 by_cases A : f.name = "_"
 ·rw[if_pos A,if_pos A]
 ·rw[if_neg A,if_neg A]
  cases partO P f.type xs f.offset <;> rfl
theorem nateq (a b:Nat):(((a:Nat):Int) == ((b:Nat):Int))=decide (a=b):=by
 by_cases h:a=b
 ·subst h;simp
 ·rw[decide_eq_false h,bFn];exact fun e=>h (Int.ofNat_inj.1 e)
theorem natne (a b:Nat):(((a:Nat):Int) != ((b:Nat):Int))=decide (a≠b):=by
 by_cases h:a=b
 ·subst h;simp
 ·rw[decide_eq_true h,bne_iff_ne];exact fun e=>h (Int.ofNat_inj.1 e)
theorem eqV_i {d t:Nat}(h:intO P t=some .i64)(a b:Nat):eqV P (d+1) t (.int .i64 (a:Nat)) (.int .i64 (b:Nat))=some (decide (a=b)):=by
 unfold eqV;rw[qJe h];simp only[if_true,nateq]
theorem ckV_i {d t:Nat}{k:IntKind}(h:intO P t=some k)(v:Value):ckV P (d+1) t v=true:=by
 unfold ckV;rw[qJe h]
theorem qKh (h:aggO P t=some false):partO P t xs o=xs[o]?:=by simp only[partO,h]
theorem part_agg {t n:Nat}(h:aggO P t=some true)(A:szO P t=some n):partO P t xs o=some (.agg (xs.extract o (o+n))):=by simp only[partO,h,A,qK]
end
section
variable {P:Program}
theorem storeL_mid:∀ (vs a m r:List Value),vs.length=m.length->qXz vs a.length (a++m++r).toArray=(a++vs++r).toArray
 | [],a,[],r,_=>rfl
 | [],_,_::_,_,h=>by cases h
 | _::_,_,[],_,h=>by cases h
 | v::vs,a,x::m,r,h=>by
  have e:((a++(x::m)++r).toArray).setIfInBounds a.length v=(a++[v]++m++r).toArray:=by
   apply Array.toList_inj.1;simp[j7]
  show qXz vs (a.length+1) (((a++(x::m)++r).toArray).setIfInBounds a.length v)=_;rw[e];have:=storeL_mid vs (a++[v]) m r (by simpa using h);rw[lAp,List.length_singleton]at this;rw[this]
  simp
section
variable {t:TypeId} {w:World} {b:Nat} {e:TypeId} {fz:Nat × Nat} {a m r:List Value}
theorem qJw (A:aggO P t=some true)(B:szO P t=some m.length)(E:0<m.length)(h:w.heap[b]?=some (.cells (a++m++r).toArray e fz))(H:a.length=o):rdO P t w b o=some (.agg m.toArray) :=
 rds A B h sm E fun i hi=>by
  subst H;rw[xI,xI,List.append_assoc,z4 om,Nat.add_sub_cancel_left,zR hi]
theorem wr_mid (B:szO P t=some m.length)(A:vs.length=m.length)(E:vs.all one=true)(h:w.heap[b]?=some (.cells (a++m++r).toArray e (0, 0)))(H:a.length=o) :
  wrO P t w b o (.agg vs.toArray)=some (put w b (.cells (a++vs++r).toArray e (0,0))):=by
 subst H;have:=wrs (P:=P) (t:=t) (vs:=vs.toArray) (o:=a.length) (by rw[B];simp[A]) h (by simp;omega) (by simpa using E);rw[this];show some (put w b (.cells (qXz vs a.length (a++m++r).toArray) e (0,0)))=_;rw[storeL_mid _ _ _ _ A]
theorem rd_one (A:aggO P t=some false)(h:w.heap[b]?=some (.cells (a++v::r).toArray e fz))(B:a.length=o):rdO P t w b o=some v :=
 rd1 A h (by subst B;simp)
theorem wr_one {u v:Value}(A:szO P t=some 1)(B:one v=true)(h:w.heap[b]?=some (.cells (a++u::r).toArray e (0,0)))(E:a.length=o):wrO P t w b o v=some (put w b (.cells (a++v::r).toArray e (0,0))):=by
 subst E;rw[wr1 A B h sm]
 congr 4
 apply Array.toList_inj.1;simp[j7]
end
theorem copy_mid {t e:Nat}(B:ts[0]?=some t)(E:slcO P t=some e)(hsz:szO P e=some 1){A:Nat}{d:List Byte}(H:a.length=o)(I:d.length=n)
  (hrow:w.heap[b]?=some (.cells (a++d.map u8++r).toArray A (0,0))) {bs:List Byte} (J:By w x bs) (L:n<=bs.length) :
  (Builtin.copy_ ts 0 #[.slice (some ⟨b,o,none⟩) n n,x]).run P w=.ok (.int .i64 (n:Nat)) (put w b (.cells (a++(bs.take n).map u8++r).toArray A (0,0))):=by
 subst H I;have:=run_copy (P:=P) B E hsz (b:=b) (o:=a.length) (dn:=d.length) (dc:=d.length) hrow J (qXs bs) (by simp;omega);rw[Nat.min_eq_right L,Nat.mul_one]at this;rw[this,storeL_mid _ _ _ _ (by rw[lTk,List.length_map,List.length_map];omega),List.map_take]
theorem pt_slice {t n e o:Nat}(A:arrO P t=some (n,e))(B:szO P e=some 1)(E:0<n)(b:Nat):qQw P t (pt b o) none none none=some (.slice (some ⟨b,o,none⟩) n n):=by
 simp only[qQw,A,optB,qV,B,qK,Addr.add,Nat.zero_mul,Nat.add_zero,Nat.sub_zero]
 simp
theorem qJv {a m r vs:List Value}(B:ps i=some (o, n))(E:a.length=o)(H:m.length=n)(A:vs.length=n) :
  Instr.fill ps (a++m++r).toArray ((i,.agg vs.toArray)::rest)=Instr.fill ps (a++vs++r).toArray rest:=by
 subst E H;rw[fill_cons B (by simpa [Value.cells] using A) sm];show Instr.fill ps (qXz vs a.length _) rest=_;rw[storeL_mid _ _ _ _ A]
theorem qJb {u v:Value}(A:ps i=some (o, 1))(B:a.length=o)(E:one v=true) :
  Instr.fill ps (a++u::r).toArray ((i,v)::rest)=Instr.fill ps (a++v::r).toArray rest:=by
 subst B;rw[fill_one1 A E sm]
 congr 1
 apply Array.toList_inj.1;simp[j7]
theorem qKd {c:Array Value}{ps:List (Nat × Nat)}(A:zeroO P t=some z)(B:qXh P t=some ps)(E:z.cells=c)(parts:List (Nat × Value)):bldO P t parts=(Instr.fill (ps[·]?) c parts).map .agg:=by
 unfold bldO;rw[A,qV,B,E]
end
section
variable {P:Program}
abbrev Rows:=List (List Value)
def RowsOk (k:Nat)(l:Rows):Prop:=∀ r ∈ l,r.length=k/\r.all one=true
theorem RowsOk.nil (k:Nat):RowsOk k []:=fun _ h=>by cases h
theorem RowsOk.app {k:Nat}{a b:Rows}(h:RowsOk k a)(g:RowsOk k b):RowsOk k (a++b):=fun r A=>(List.mem_append.1 A).elim (h r) (g r)
theorem RowsOk.one {k:Nat}{r:List Value}(h:r.length=k)(g:r.all one=true):RowsOk k [r]:=fun x A=>by simp only[y9]at A;subst A;exact⟨h,g⟩
theorem RowsOk.tail {k:Nat}{l:Rows}(h:RowsOk k (r::l)):RowsOk k l:=fun x A=>h x (by simp[A])
theorem rows_len {k:Nat}:∀ {l:Rows},RowsOk k l->l.flatten.length=l.length*k
 | [],_=>by simp
 | r::l,h=>by
  rw[zA,lAp,rows_len h.tail,(h r sm).1,List.length_cons,xL];omega
theorem rows_at {k:Nat}:∀ {l:Rows},RowsOk k l->∀ {i:Nat} (hi:i<l.length) {j:Nat},j<k->l.flatten[i*k+j]?=l[i][j]?
 | r::l,h,0,_,j,A=>by
  have:=(h r sm).1;rw[zA,Nat.zero_mul,jY,zR om];rfl
 | r::l,h,i+1,hi,j,A=>by
  have:=(h r sm).1;have e:=rows_at h.tail (show i<l.length by simpa using hi) A;rw[zA,z4 (by rw[xL];omega),this,show (i+1)*k+j - k=i*k+j by rw[xL];omega,e];rfl
theorem qXb {K:Nat}(I:0<K)(B:1*K<=2 ^ 24){y:List Value}(J:y.length=K){c:Array Value}(L:c.size=K)(E:xs.size=K)(g:Array Value->Value × World) :
  (Sum.inl (if 1*K<=2 ^ 24/\0<K/\c.size=K then Option.map g (if (decide ¬xs.size=K || decide (xs.size > (zrow y 1).size))=true then none else some (Array.foldl (fun H x=>H.setIfInBounds x.snd x.fst) (zrow y 1) xs.zipIdx)) else none):Out)=.inl (some (g xs)):=by
 have A:(zrow y 1).size=K:=by simp[zrow,J]
 have e:Array.foldl (fun (H:Array Value) (x:Value × Nat)=>H.setIfInBounds x.snd x.fst) (zrow y 1) xs.zipIdx=xs:=by
  have h:=foldl_zip xs.toList 0 0 (zrow y 1);simp only[jY]at h;rw[<- Array.foldl_toList,Array.toList_zipIdx,h];apply Array.toList_inj.1;rw[qJm _ _ _ (by rw[zQ,E,A];omega),List.take_zero,List.nil_append,jY,List.drop_of_length_le (by rw[zQ,zQ,E,A];exact Nat.le_refl _),List.append_nil]
 rw[if_pos ⟨B,I,L⟩,E,A,if_neg sm,e];rfl
def RdR (w:World)(k:Nat)(v:Value)(rows:Rows):Prop:=RowsOk k rows/\Rd w k v rows.length rows.flatten
def NwR (w0 w:World)(e k:Nat)(v:Value)(rows:Rows):Prop:=RowsOk k rows/\Nw w0 w e k v rows.length rows.flatten
section
variable {w0 w w':World} {e k:Nat} {v:Value} {rows:Rows}
theorem NwR.nil (w0 w:World)(e k:Nat):NwR w0 w e k (.slice none 0 0) []:=⟨RowsOk.nil _,Nw.nil _ _ _ _⟩
theorem NwR.rd (h:NwR w0 w e k v rows):RdR w k v rows:=⟨h.1,h.2.rd⟩
theorem NwR.fr (h:NwR w0 w e k v rows)(f:Fr F w w')(A:∀ b,qQc v=some b->¬ F b):NwR w0 w' e k v rows:=⟨h.1,h.2.fr f A⟩
theorem NwR.fr0 (h:NwR w0 w e k v rows)(f:No w w'):NwR w0 w' e k v rows:=⟨h.1,h.2.fr0 f⟩
theorem NwR.back {u:World}(h:NwR w0 w e k v rows)(A:u.heap.size<=w0.heap.size):NwR u w e k v rows:=⟨h.1,h.2.back A⟩
theorem NwR.lt (h:NwR w0 w e k v rows)(A:qQc v=some b):w0.heap.size<=b/\b<w.heap.size:=⟨h.2.new b A,h.2.own.lt A⟩
theorem RdR.fr0 (h:RdR w k v rows)(f:No w w'):RdR w' k v rows:=⟨h.1,h.2.fr f fun _ _ _ h=>h⟩
theorem RdR.slice (h:RdR w k v rows):∃ a cap,v=.slice a rows.length cap/\rows.length<=cap:=by
 obtain⟨_,_,a,cap,e,h,_⟩:=h;exact⟨a,cap,e,h⟩
theorem RdR.pos (h:RdR w k v rows)(B:0<k)(E:0<rows.length):∃ b o cap,v=.slice (some ⟨b,o,none⟩) rows.length cap/\rows.length<=cap:=by
 obtain⟨_,_,a,cap,rfl,h,A⟩:=h;obtain⟨b,o,rfl,_⟩:=A (Nat.mul_pos E B);exact⟨b,o,cap,rfl,h⟩
theorem RdR.cell (h:RdR w k (.slice (some ⟨b,o,none⟩) n cap) rows)(hi:i<rows.length)(J:j<k):rc w b (o+i*k+j)=rows[i][j]?:=by
 obtain⟨L,M,a,H,B,I,A⟩:=h;cases B;have E:(i+1)*k<=rows.length*k:=Nat.mul_le_mul_right k hi;rw[xL]at E;obtain⟨N,O,B,A⟩:=A om;cases B;rw[Nat.add_assoc,A _ om,rows_at L hi J]
theorem RdR.get (h:RdR w k (.slice (some ⟨b,o,none⟩) n cap) rows)(A:aggO P t=some true)(B:szO P t=some k)(E:0<k)(hi:i<rows.length):rdO P t w b (o+i*k)=some (.agg rows[i].toArray):=by
 have H:=(h.1 _ (List.getElem_mem hi)).1;refine rd_rcs A B (by simp[H]) E fun j I=>?_;rw[h.cell hi I,xI]
theorem RdR.fld (h:RdR w k (.slice (some ⟨b,o,none⟩) n cap) rows)(A:aggO P t=some false)(hi:i<rows.length)(B:j<k)(E:rows[i][j]?=some x):rdO P t w b (o+i*k+j)=some x :=
 rd_rc A (by rw[h.cell hi B];exact E)
theorem RdR.sub (h:RdR w k (.slice (some ⟨b,o,none⟩) n cap) rows){t m:Nat}(A:aggO P t=some true)(B:szO P t=some m)(E:0<m)(hi:i<rows.length)(L:j+m<=k){xs:List Value}(H:xs.length=m)(I:∀ q,q<m->rows[i][j+q]?=xs[q]?):rdO P t w b (o+i*k+j)=some (.agg xs.toArray):=by
 refine rd_rcs A B (by simp[H]) E fun q J=>?_;rw[Nat.add_assoc (o+i*k),h.cell hi om,I q J,xI]
theorem NwR.push (L:AppT P ts e k by' z)(I:NwR w0 w e k v rows){xs:List Value}(B:xs.length=k)(A:xs.all one=true)(M:0<k)
  (H:(rows.length+rows.length / 4+1024)*by'<=2 ^ 48) (J:rows.length<2 ^ 60) (f:w0.heap.size<=w.heap.size) :
  ∃ E w',(Builtin.append_ ts 0 #[v,.slice (some ⟨w.heap.size,0,none⟩) 1 1]).run P (w.alloc (.cells xs.toArray e))=.ok E w'/\NwR w0 w' e k E (rows++[xs])/\Fr (fun b=>qQc v=some b) w w' /\
   ∀ b,qQc E=some b->qQc v=some b∨w.heap.size<=b:=by
 obtain⟨E,w',N,O,R,T⟩:=app_freshX L I.2 (m:=1) (xs:=xs.toArray) (by simp[B]) (by simpa using A) M (bd_one H) om f;refine⟨E,w',N,⟨I.1.app (RowsOk.one B A),?_⟩,R,T⟩;rw[lAp,List.flatten_append,List.flatten_singleton];exact O
end
end
end Go.V
